/- A part of the proof of SynthesisAgainSaid: lemmas on the way (AmGx, AmH, AmI). Conditions: none of ours. -/
import Derived.Laws.BytesString
import Derived.Laws.Externs
import Derived.Test.YtnfcjlgmkjiehaaAmZ2
set_option linter.unusedSectionVars false
set_option linter.unusedSimpArgs false
set_option linter.unusedVariables false
namespace Go.AM
variable {P : Program} {c : Ctx} {w : World} {h : Heap}
def bytesOf : List AV → Option (List UInt8)
  | [] => some []
  | .int .u8 n :: r => (bytesOf r).map (UInt8.ofNat n.toNat :: ·)
  | _ => none
def aConvB (x : AV) : HM AV :=
  match x with
  | .str _ => .fail
  | x => aSrc 1 x fun ys n => match bytesOf ys with
    | some s => .ret (.str s)
    | none => .fail
def convBT (P : Program) (src dst : TypeId) : Bool :=
  match P.underlying src, P.underlying dst with
  | some (.slice e), some .string => (match P.underlying e with | some (.int .u8) => true | _ => false)
  | _, _ => false
theorem bytesOf_rel : ∀ {ys : List AV} {us : List Value} {s : List UInt8}, bytesOf ys = some s → VRels c w ys us → ∃ ns : List Int, us = ns.map (Value.int .u8) ∧ s = ns.map fun n => UInt8.ofNat n.toNat
  | [], us, s, hb, hr => by
    simp only [bytesOf, Option.some.injEq] at hb
    simp only [VRels] at hr
    subst hb; subst hr
    exact ⟨[], rfl, rfl⟩
  | y :: ys, us, s, hb, hr => by
    have hy : ∃ n s2, y = .int .u8 n ∧ bytesOf ys = some s2 ∧ s = UInt8.ofNat n.toNat :: s2 := by
      cases y <;> try (simp [bytesOf] at hb; done)
      rename_i k n
      cases k <;> try (simp [bytesOf] at hb; done)
      simp only [bytesOf] at hb
      cases hb2 : bytesOf ys with
      | none => simp [hb2] at hb
      | some s2 =>
        simp only [hb2, Option.map_some, Option.some.injEq] at hb
        exact ⟨n, s2, rfl, rfl, hb.symm⟩
    obtain ⟨n, s2, rfl, hb2, rfl⟩ := hy
    simp only [VRels] at hr
    obtain ⟨v, vs, rfl, h1, h2⟩ := hr
    simp only [VRel] at h1
    obtain ⟨ns, rfl, rfl⟩ := bytesOf_rel hb2 h2
    exact ⟨n :: ns, by simp [h1], by simp⟩
theorem push_bytes (ns : List Int) : ns.foldl (fun r n => r.push (UInt8.ofNat n.toNat)) ByteArray.empty = ⟨(ns.map fun n => UInt8.ofNat n.toNat).toArray⟩ := by
  have : ∀ (ns : List Int) (r : ByteArray), ns.foldl (fun r n => r.push (UInt8.ofNat n.toNat)) r = ⟨r.data ++ (ns.map fun n => UInt8.ofNat n.toNat).toArray⟩ := by
    intro ns
    induction ns with
    | nil => intro r; simp
    | cons n ns ih =>
      intro r
      simp only [List.foldl_cons, ih, List.map_cons]
      congr 1
      apply Array.ext'
      simp [ByteArray.push]
  rw [this]
  congr 1
  apply Array.ext'
  simp [ByteArray.empty, ByteArray.emptyWithCapacity]
  rfl
theorem convB_sound {src dst : TypeId} {x v : AV} {cx : Value} {h' : Heap} (H : HRel c h w) (hx : VRel c w x cx) (ht : convBT P src dst = true) (hm : (aConvB x).run h = some (v, h')) :
    Sound P c w (convert src dst cx) v h' := by
  unfold convBT at ht
  split at ht
  · rename_i e hs hd
    split at ht
    · rename_i he
      have hx0 : ∃ a l cp, cx = .slice a l cp := by
        cases x <;> simp only [aConvB, aSrc, HM.run] at hm <;> try (cases hm; done)
        · simp only [VRel] at hx; exact ⟨_, _, _, hx⟩
        · simp only [VRel] at hx
          rcases hx with ⟨_, _, _, rfl⟩ | ⟨_, _, _, _, _, _, _, _, rfl, _⟩ <;> exact ⟨_, _, _, rfl⟩
        · simp only [VRel] at hx
          rcases hx with ⟨⟨_, rfl⟩, _⟩ | ⟨_, _, _, _, _, _, rfl, _⟩ <;> exact ⟨_, _, _, rfl⟩
        · simp only [VRel] at hx; obtain ⟨a, rfl⟩ := hx; exact ⟨_, _, _, rfl⟩
        · simp only [VRel] at hx; obtain ⟨a, k, rfl⟩ := hx; exact ⟨_, _, _, rfl⟩
      have hm' : (aSrc 1 x fun ys n => match bytesOf ys with | some s => .ret (.str s) | none => .fail).run h = some (v, h') := by
        cases x <;> first | exact hm | (cases hm; done)
      obtain ⟨ys, n, us, S, hm'⟩ := src_sound (P := P) H hx hm'
      split at hm'
      · rename_i s hs'
        simp only [HM.run, Option.some.injEq, Prod.mk.injEq] at hm'
        obtain ⟨rfl, rfl⟩ := hm'
        obtain ⟨ns, rfl, rfl⟩ := bytesOf_rel hs' S.rels
        obtain ⟨a, l, cp, rfl⟩ := hx0
        have hl := S.lenOf w
        have hf := S.first w rfl
        refine .here H (cv := .string ⟨(ns.map fun n => UInt8.ofNat n.toNat).toArray⟩) ?_ (by simp [VRel])
        rw [run_convert_bytes_string w src dst e a l cp hs he hd]
        cases a with
        | none =>
          have hn : n = l := by simpa [Builtin.lenOf] using hl.symm
          have : (ns.map (Value.int .u8)) = [] := by simpa [Builtin.firstCells] using hf
          have hns : ns = [] := by simpa using this
          subst hns
          simp [Conv.bytesToString, ByteArray.empty, ByteArray.emptyWithCapacity]
          rfl
        | some a =>
          have hn : n = l := by simpa [Builtin.lenOf] using hl.symm
          subst hn
          have hf' : (loadCells a n).run P w = .ok (ns.map (Value.int .u8)).toArray w := by simpa [Builtin.firstCells] using hf
          rw [run_bytesToString w a n cp ns hf', push_bytes]
      · simp [HM.run] at hm'
    · cases ht
  · cases ht
def aExt (k : Nat) (xs : List AV) : Option AV :=
  match k, xs with
  | 0, [.int _ x, .int _ y, .int _ z] => if 0 ≤ x ∧ 0 ≤ y ∧ 0 ≤ z ∧ z ≤ 1 then some (.tup [.int .u64 ((x + y + z) % 18446744073709551616), .int .u64 ((x + y + z) / 18446744073709551616)]) else none
  | 1, [.int _ x, .int _ y, .int _ z] => if 0 ≤ x ∧ x < 18446744073709551616 ∧ 0 ≤ y ∧ y < 18446744073709551616 ∧ 0 ≤ z ∧ z ≤ 1 then
      some (.tup [.int .u64 ((x + 18446744073709551616 - y - z) % 18446744073709551616), .int .u64 (if x < y + z then 1 else 0)]) else none
  | _, _ => none
def extName (k : Nat) : String := if k = 0 then "math/bits.Add64" else "math/bits.Sub64"
def sub64Entry : Array Value → Sem Value := fun args => do
  let (x, y, b) ← Extern.MathBitsCarry.three "Sub64" args
  pure (Extern.MathBitsCarry.pair ((x + Extern.MathBitsCarry.m64 - y - b) % Extern.MathBitsCarry.m64) (if x < y + b then 1 else 0))
theorem run_sub64 (x y z : Int) (hx : 0 ≤ x) (hx2 : x < 18446744073709551616) (hy : 0 ≤ y) (hy2 : y < 18446744073709551616) (hz0 : 0 ≤ z) (hz : z ≤ 1) {kx ky kz : IntKind} (w : World) :
    (sub64Entry #[.int kx x, .int ky y, .int kz z]).run P w =
      .ok (.tuple #[.int .u64 ((x + 18446744073709551616 - y - z) % 18446744073709551616), .int .u64 (if x < y + z then 1 else 0)]) w := by
  have key : ∀ k : Nat, k ≤ 1 → (sub64Entry #[.int kx x, .int ky y, .int kz (k : Int)]).run P w =
      .ok (Extern.MathBitsCarry.pair ((x.toNat + Extern.MathBitsCarry.m64 - y.toNat - k) % Extern.MathBitsCarry.m64) (if x.toNat < y.toNat + k then 1 else 0)) w := by
    intro k hk
    have : k = 0 ∨ k = 1 := by omega
    rcases this with rfl | rfl <;> rfl
  obtain ⟨k, rfl⟩ := Int.eq_ofNat_of_zero_le hz0
  rw [key k (by omega)]
  obtain ⟨X, rfl⟩ := Int.eq_ofNat_of_zero_le hx
  obtain ⟨Y, rfl⟩ := Int.eq_ofNat_of_zero_le hy
  simp only [Extern.MathBitsCarry.pair, Extern.MathBitsCarry.m64, Int.toNat_natCast]
  congr 4
  · simp; omega
  · congr 2
    by_cases h : X < Y + k
    · rw [if_pos h, if_pos (by omega)]; rfl
    · rw [if_neg h, if_neg (by omega)]; rfl
theorem run_add64' (x y z : Int) (hx : 0 ≤ x) (hy : 0 ≤ y) (hz0 : 0 ≤ z) (hz : z ≤ 1) {kx ky kz : IntKind} (w : World) :
    (add64Entry #[.int kx x, .int ky y, .int kz z]).run P w =
      .ok (.tuple #[.int .u64 ((x + y + z) % 18446744073709551616), .int .u64 ((x + y + z) / 18446744073709551616)]) w := by
  have key : ∀ k : Nat, k ≤ 1 → (add64Entry #[.int kx x, .int ky y, .int kz (k : Int)]).run P w =
      .ok (Extern.MathBitsCarry.pair ((x.toNat + y.toNat + k) % Extern.MathBitsCarry.m64) ((x.toNat + y.toNat + k) / Extern.MathBitsCarry.m64)) w := by
    intro k hk
    have : k = 0 ∨ k = 1 := by omega
    rcases this with rfl | rfl <;> rfl
  obtain ⟨k, rfl⟩ := Int.eq_ofNat_of_zero_le hz0
  rw [key k (by omega)]
  obtain ⟨X, rfl⟩ := Int.eq_ofNat_of_zero_le hx
  obtain ⟨Y, rfl⟩ := Int.eq_ofNat_of_zero_le hy
  simp only [Extern.MathBitsCarry.pair, Extern.MathBitsCarry.m64, Int.toNat_natCast]
  congr 4 <;> simp <;> omega
theorem find_add64 {fn : Func} (hn : fn.name = "math/bits.Add64") : Extern.find fn = some add64Entry := by
  have h1 : Extern.allGenericRows.lookup "math/bits.Add64" = none := by kernel_rfl
  have h2 : Extern.allTypedRows.lookup "math/bits.Add64" = none := by kernel_rfl
  have h3 : Extern.allRows.lookup "math/bits.Add64" = some add64Entry := by kernel_rfl
  simp [Extern.find, hn, h1, h2, h3]
theorem find_sub64 {fn : Func} (hn : fn.name = "math/bits.Sub64") : Extern.find fn = some sub64Entry := by
  have h1 : Extern.allGenericRows.lookup "math/bits.Sub64" = none := by kernel_rfl
  have h2 : Extern.allTypedRows.lookup "math/bits.Sub64" = none := by kernel_rfl
  have h3 : Extern.allRows.lookup "math/bits.Sub64" = some sub64Entry := by kernel_rfl
  simp [Extern.find, hn, h1, h2, h3]
def extFn (P : Program) (f k : Nat) : Bool :=
  match P.funcs[f]? with
  | some fn => fn.body.isNone && fn.name == extName k && (Extern.findNext fn).isNone && decide (k ≤ 1)
  | none => false
theorem ext_sound {f k : Nat} {xs : List AV} {v : AV} {cargs : Array Value} (hf : extFn P f k = true) (hx : VRels c w xs cargs.toList) (hm : aExt k xs = some v) :
    ∃ cv, (callFunc f cargs).run P w = .ok (.value cv) w ∧ VRel c w v cv := by
  unfold extFn at hf
  split at hf
  · rename_i fn hfn
    simp only [Bool.and_eq_true, beq_iff_eq, decide_eq_true_eq] at hf
    obtain ⟨⟨⟨hb, hn⟩, hnx⟩, hk⟩ := hf
    have hnx : Extern.findNext fn = none := by simpa using hnx
    have three : ∀ {kx ky kz : IntKind} {x y z : Int}, xs = [.int kx x, .int ky y, .int kz z] → cargs = #[.int kx x, .int ky y, .int kz z] := by
      intro kx ky kz x y z e
      subst e
      simp only [VRels, VRel] at hx
      obtain ⟨_, _, e1, rfl, _, _, rfl, rfl, _, _, rfl, rfl, rfl⟩ := hx
      apply Array.ext'; simpa using e1
    unfold aExt at hm
    split at hm
    · rename_i kx x ky y kz z
      have e := three rfl
      subst e
      split at hm
      · rename_i hc
        cases hm
        have hn' : fn.name = "math/bits.Add64" := hn
        refine ⟨.tuple #[.int .u64 ((x + y + z) % 18446744073709551616), .int .u64 ((x + y + z) / 18446744073709551616)], ?_, ?_⟩
        · rw [run_callFunc_extern hfn (by rw [hn']; rfl) hb hnx (find_add64 hn'), run_add64' x y z hc.1 hc.2.1 hc.2.2.1 hc.2.2.2]; rfl
        · simp only [VRel]
          exact ⟨_, rfl, by simp [VRels, VRel]⟩
      · cases hm
    · rename_i kx x ky y kz z
      have e := three rfl
      subst e
      split at hm
      · rename_i hc
        cases hm
        have hn' : fn.name = "math/bits.Sub64" := hn
        refine ⟨.tuple #[.int .u64 ((x + 18446744073709551616 - y - z) % 18446744073709551616), .int .u64 (if x < y + z then 1 else 0)], ?_, ?_⟩
        · rw [run_callFunc_extern hfn (by rw [hn']; rfl) hb hnx (find_sub64 hn'), run_sub64 x y z hc.1 hc.2.1 hc.2.2.1 hc.2.2.2.1 hc.2.2.2.2.1 hc.2.2.2.2.2]; rfl
        · simp only [VRel]
          exact ⟨_, rfl, by simp [VRels, VRel]⟩
      · cases hm
    · cases hm
  · cases hf
end Go.AM
set_option linter.unusedSimpArgs false
set_option linter.unusedVariables false
namespace Go.AM
variable {P : Program} {c : Ctx} {w : World} {h : Heap}
inductive CallM where
  | heap
  | pure
  | borrow
  deriving DecidableEq
inductive AOut where
  | val (v : AV)
  | call (m : CallM) (f : Nat) (args : List AV)
inductive SOp where
  | mov (x : Opd)
  | pick (c a b : Opd)
  | alloc (s : Site) (z : AV)
  | box (s : Site) (x : Opd)
  | build (zero : List AV) (parts : List (Nat × Nat × Opd))
  | bslice (frozen : Bool) (s : Site) (sz len : Nat) (zero : List AV) (parts : List (Nat × Nat × Opd))
  | load (n : Option Nat) (x : Opd)
  | store (n : Nat) (x v : Opd)
  | nilchk (x : Opd)
  | bin (op : BinOp) (x y : Opd)
  | eq (k : EqK) (neg : Bool) (x y : Opd)
  | un (op : UnOp) (x : Opd)
  | conv (k : IntKind) (x : Opd)
  | convS (x : Opd)
  | convB (x : Opd)
  | ext (k f : Nat) (args : List Opd)
  | mkfn (f : Nat) (first captured : List Opd)
  | mkmap (s : Site)
  | mkslice (s : Site) (sz bytes : Nat) (zero : List AV) (l c : Opd)
  | slice (sz : Option Nat) (x : Opd) (l h m : Option Opd)
  | faddr (off : Nat) (x : Opd)
  | field (n : Option Nat) (off : Nat) (x : Opd)
  | iaddr (arr : Option Nat) (sz : Nat) (x i : Opd)
  | index (arr : Option (Nat × Nat × Bool)) (x i : Opd)
  | lookup (row : Bool) (ks : List LK) (zero : AV) (ok : Bool) (x k : Opd)
  | mupd (row : Bool) (ks : List LK) (x k v : Opd)
  | extract (i : Nat) (x : Opd)
  | len (k : Nat) (x : Opd)
  | append (s : Site) (sz bytes : Nat) (x y : Opd)
  | copy (sz : Nat) (x y : Opd)
  | maxmin (mn : Bool) (xs : List Opd)
  | call (m : CallM) (x : Opd) (args : List Opd)
  | bad
def mapH (f : AV → HM AV) : List AV → HM (List AV)
  | [] => .ret []
  | x :: xs => (f x).bind fun y => (mapH f xs).bind fun ys => .ret (y :: ys)
def frzH : Nat → AV → HM AV
  | 0, v => .ret v
  | d + 1, v => match v with
    | .sl b g off len sz => .cells b g fun cs => if off + len * sz ≤ cs.length then (mapH (frzH d) ((cs.drop off).take (len * sz))).bind fun cs' => .ret (.fsl cs' len sz) else .fail
    | .ptr b g off => .cells b g fun cs => (mapH (frzH d) (cs.drop off)).bind fun cs' => .ret (.fptr cs')
    | .agg cs => (mapH (frzH d) cs).bind fun cs' => .ret (.agg cs')
    | .tup cs => (mapH (frzH d) cs).bind fun cs' => .ret (.tup cs')
    | v => .ret v
mutual
def noRef : AV → Bool
  | .ptr .. | .sl .. | .map .. => false
  | .agg cs | .tup cs | .fptr cs | .fsl cs _ _ => noRefs cs
  | .fmap ks vs => noRefs ks && noRefs vs
  | .fn _ x y => noRefs x && noRefs y
  | .ifc _ v => noRef v
  | .any | .bool _ | .int _ _ | .str _ | .nilptr | .nilsl | .esl | .nsl | .nilmap | .nilfn | .nilif => true
termination_by structural x => x
def noRefs : List AV → Bool
  | [] => true
  | x :: xs => noRef x && noRefs xs
termination_by structural x => x
end
mutual
def flatV : AV → Bool
  | .ptr .. | .sl .. | .map .. | .fptr _ | .fsl .. | .fmap .. => false
  | .agg cs | .tup cs => flatVs cs
  | .fn _ x y => flatVs x && flatVs y
  | .ifc _ v => flatV v
  | .any | .bool _ | .int _ _ | .str _ | .nilptr | .nilsl | .esl | .nsl | .nilmap | .nilfn | .nilif => true
termination_by structural x => x
def flatVs : List AV → Bool
  | [] => true
  | x :: xs => flatV x && flatVs xs
termination_by structural x => x
end
def lift (r : Option AV) : HM AOut :=
  match r with
  | some v => .ret (.val v)
  | none => .fail
def hval (m : HM AV) : HM AOut := m.bind fun v => .ret (.val v)
def aPick (c a b : AV) : Option AV :=
  match c with
  | .bool t => some (if t then a else b)
  | _ => none
def aNil (x : AV) : Option AV :=
  match x with
  | .ptr .. | .fptr _ | .fn .. | .ifc .. => some x
  | _ => none
def aSliceC (sz : Option Nat) (x : AV) (l h m : Option AV) : Option AV :=
  match sz, x with
  | some n, .sl _ _ _ _ s => if s = n then aSlice x l h m else none
  | some n, .fsl _ _ s => if s = n then aSlice x l h m else none
  | some _, .nilsl => aSlice x l h m
  | some _, .esl => aSlice x l h m
  | none, .str _ => aSlice x l h m
  | _, _ => none
def aLenC (k : Nat) (x : AV) : HM AV := if lenKind x = k then aLen x else .fail
def evs (T : Tmps) (xs : List Opd) : List AV := xs.map (ev T)
def evParts (T : Tmps) (xs : List (Nat × Nat × Opd)) : List (Nat × Nat × AV) := xs.map fun p => (p.1, p.2.1, ev T p.2.2)
def evo (T : Tmps) (x : Option Opd) : Option AV := x.map (ev T)
def aCall (m : CallM) (x : AV) (args : List AV) : HM AOut :=
  match x with
  | .fn f first captured =>
    match m with
    | .borrow => (mapH (frzH 4) (first ++ args ++ captured)).bind fun asx => .ret (.call .borrow f asx)
    | m => .ret (.call m f (first ++ args ++ captured))
  | _ => .fail
def aop (i : Nat) (T : Tmps) : SOp → HM AOut
  | .mov x => .ret (.val (ev T x))
  | .pick c a b => lift (aPick (ev T c) (ev T a) (ev T b))
  | .alloc s z => hval (aBox s i z)
  | .box s x => hval (aBox s i (ev T x))
  | .build zero parts => lift (aBuild zero (evParts T parts))
  | .bslice fz s sz len zero parts => hval (aBuildSlice fz s i sz len zero (evParts T parts))
  | .load n x => hval (aLoad n (ev T x))
  | .store n x v => hval (aStore n (ev T x) (ev T v))
  | .nilchk x => lift (aNil (ev T x))
  | .bin op x y => lift (aBin op (ev T x) (ev T y))
  | .eq k neg x y => lift (aEq k neg (ev T x) (ev T y))
  | .un op x => lift (aUn op (ev T x))
  | .conv k x => lift (aConv k (ev T x))
  | .convS x => lift (aConvS (ev T x))
  | .convB x => hval (aConvB (ev T x))
  | .ext k _ args => lift (aExt k (evs T args))
  | .mkfn f xs ys => .ret (.val (.fn f (evs T xs) (evs T ys)))
  | .mkmap s => hval (aMakeMap s i)
  | .mkslice s sz bytes zero l c => hval (aMakeSlice s i sz bytes zero (ev T l) (ev T c))
  | .slice sz x l h m => lift (aSliceC sz (ev T x) (evo T l) (evo T h) (evo T m))
  | .faddr off x => lift (aFAddr off (ev T x))
  | .field n off x => lift (aField n off (ev T x))
  | .iaddr arr sz x j => lift (aIAddr arr sz (ev T x) (ev T j))
  | .index arr x j => lift (aIndex arr (ev T x) (ev T j))
  | .lookup row ks zero ok x k => hval (aLookup row ks zero ok (ev T x) (ev T k))
  | .mupd row ks x k v => hval (aMapUpd row ks (ev T x) (ev T k) (ev T v))
  | .extract j x => lift (aExtract j (ev T x))
  | .len k x => hval (aLenC k (ev T x))
  | .append s sz bytes x y => hval (aAppend s i sz bytes (ev T x) (ev T y))
  | .copy sz x y => hval (aCopy sz (ev T x) (ev T y))
  | .maxmin mn xs => lift (aMax mn (evs T xs))
  | .call m x args => aCall m (ev T x) (evs T args)
  | .bad => .fail
def okOpd : Operand → Opd → Bool
  | .tmp t, .t i => t == i
  | .const v, .c x => cOK x v
  | .func f, .f n => f == n
  | .global g, .g n => g == n
  | _, _ => false
def okOpds : List Operand → List Opd → Bool
  | [], [] => true
  | x :: xs, y :: ys => okOpd x y && okOpds xs ys
  | _, _ => false
def okOpdo : Option Operand → Option Opd → Bool
  | none, none => true
  | some x, some y => okOpd x y
  | _, _ => false
def okParts (place : Nat → Option (Nat × Nat)) : List (Nat × Operand) → List (Nat × Nat × Opd) → Bool
  | [], [] => true
  | (i, x) :: xs, (off, size, y) :: ys => (match place i with | some (o, s) => o == off && s == size | none => false) && okOpd x y && okParts place xs ys
  | _, _ => false
def LK.same : LK → LK → Bool
  | .b, .b | .i, .i | .s, .s => true
  | _, _ => false
def LK.sames : List LK → List LK → Bool
  | [], [] => true
  | x :: xs, y :: ys => x.same y && LK.sames xs ys
  | _, _ => false
def mapTB (P : Program) (t : TypeId) (row : Bool) (ks : List LK) : Bool :=
  match P.underlying t with
  | some (.map kt _) => rowB P kt == row && (match flatK P 40 kt with | some ks' => LK.sames ks ks' | none => false)
  | _ => false
def mapElemZero (P : Program) (t : TypeId) (zero : AV) : Bool :=
  match P.underlying t with
  | some (.map _ et) => (match zeroOf P et with | some zv => cOK zero zv | none => false)
  | _ => false
def buildTB (P : Program) (t : TypeId) : Bool :=
  match P.underlying t with
  | some (.array _ e) => (P.info? e).isSome
  | some (.struct fields) => (fields.toList.mapM (fun f => (P.info? f.type).map fun i => (f.offset, i.size))).isSome
  | _ => false
def elemTB (P : Program) (t : TypeId) (sz bytes : Nat) (k : TypeInfo → Value → Bool) : Bool :=
  match P.underlying t with
  | some (.slice e) => (match P.info? e with
    | some ie => ie.size == sz && ie.bytes == bytes && (match ie.zero with | some z => k ie z | none => false)
    | none => false)
  | _ => false
def notInt (P : Program) (t : TypeId) : Bool :=
  match P.underlying t with
  | some (.int _) | none => false
  | _ => true
def isConstO : Operand → Bool
  | .const _ => true
  | _ => false
def okCall (P : Program) (c : Call) (s : SOp) : Bool :=
  match c.callee, s with
  | .value f, .call _ x args => okOpd f x && okOpds c.args.toList args
  | .builtin .len, .len k x => (match c.args.toList, c.argTypes.toList with | [y], [t] => okOpd y x && lenT P t k | _, _ => false)
  | .builtin .append, .append _ sz bytes x y => (match c.args.toList, c.argTypes.toList with
    | [x', y'], [t, t2] => okOpd x' x && okOpd y' y && notInt P t2 && elemTB P t sz bytes (fun ie z => z.cells.size == sz)
    | _, _ => false)
  | .builtin .copy, .copy sz x y => (match c.args.toList, c.argTypes.toList with
    | [x', y'], [t, _] => okOpd x' x && okOpd y' y && (match P.underlying t with | some (.slice e) => (match P.info? e with | some ie => ie.size == sz | none => false) | _ => false)
    | _, _ => false)
  | .builtin .max, .maxmin false xs => okOpds c.args.toList xs
  | .builtin .min, .maxmin true xs => okOpds c.args.toList xs
  | .value (.func g), .ext k f xs => g == f && extFn P f k && okOpds c.args.toList xs
  | _, _ => false
def okOp (P : Program) (o : Op) (s : SOp) : Bool :=
  match o, s with
  | .move x, .mov y => okOpd x y
  | .assign x, .mov y => okOpd x y
  | .pick c a b, .pick c' a' b' => okOpd c c' && okOpd a a' && okOpd b b'
  | .alloc t, .alloc _ z => (match zeroOf P t with | some zv => cOK z zv | none => false)
  | .box _ x, .box _ y => okOpd x y
  | .build t parts, .build zero ps => (match zeroOf P t with | some zv => cOKs zero zv.cells.toList | none => false) && buildTB P t && okParts (placeOf P t) parts.toList ps
  | .buildSlice t len parts, .bslice _ _ sz len' zero ps => len == len' && decide (len * sz ≤ 16777216) &&
      (match P.underlying t with
       | some (.slice e) => (match P.info? e with
         | some ie => ie.size == sz && (match ie.zero with | some z => cOKs zero (zeroRow z.cells (len * sz)).toList | none => false)
         | none => false)
       | _ => false) && okParts (fun i => some (i * sz, sz)) parts.toList ps
  | .load t x, .load n y => rowT P t n && okOpd x y
  | .store t x v, .store n x' v' => (match P.info? t with | some i => i.size == n | none => false) && okOpd x x' && okOpd v v'
  | .nilCheck x, .nilchk y => okOpd x y
  | .binOp op _ x y _, .bin op' x' y' => op == op' && okOpd x x' && okOpd y y'
  | .binOp op t x y _, .eq k neg x' y' => op == (if neg then .neq else .eql) && eqT P t k && okOpd x x' && okOpd y y' && (match k with | .nil _ => isConstO y | _ => true)
  | .unOp op _ x, .un op' y => op == op' && okOpd x y
  | .convert src dst x, .conv k y => convT P src dst k && okOpd x y
  | .convert src dst x, .convS y => convST P src dst && okOpd x y
  | .convert src dst x, .convB y => convBT P src dst && okOpd x y
  | .makeFunc (.func f) first captured, .mkfn f' xs ys => f == f' && okOpds first.toList xs && okOpds captured.toList ys
  | .makeMap _ none, .mkmap _ => true
  | .makeSlice t l c, .mkslice _ sz bytes zero l' c' => okOpd l l' && okOpd c c' && elemTB P t sz bytes (fun ie z => z.cells.size == sz && cOKs zero z.cells.toList)
  | .slice t x l h m, .slice sz x' l' h' m' => sliceT P t sz && okOpd x x' && okOpdo l l' && okOpdo h h' && okOpdo m m'
  | .fieldAddr s x f, .faddr off y => faddrT P s f off && okOpd x y
  | .field s x f, .field n off y => fieldT P s f off n && okOpd x y
  | .indexAddr t x i, .iaddr arr sz x' i' => iaddrT P t arr sz && okOpd x x' && okOpd i i'
  | .index t x i, .index arr x' i' => indexT P t arr && okOpd x x' && okOpd i i'
  | .lookup t x k ok, .lookup row ks zero ok' x' k' => mapTB P t row ks && mapElemZero P t zero && ok == ok' && okOpd x x' && okOpd k k'
  | .mapUpdate t m k v, .mupd row ks m' k' v' => mapTB P t row ks && okOpd m m' && okOpd k k' && okOpd v v'
  | .insert t m k v, .mupd row ks m' k' v' => mapTB P t row ks && okOpd m m' && okOpd k k' && okOpd v v'
  | .extract x i, .extract j y => i == j && okOpd x y
  | _, .bad => true
  | .call cl, s => okCall P cl s
  | _, _ => false
theorem run_bind {α β : Type} {m : HM α} {f : α → HM β} {h : Heap} {r : β × Heap} (hm : (m.bind f).run h = some r) : ∃ a h1, m.run h = some (a, h1) ∧ (f a).run h1 = some r := by
  induction m generalizing h with
  | ret a => exact ⟨a, h, rfl, hm⟩
  | fail => simp [HM.bind, HM.run] at hm
  | look b k ih =>
    simp only [HM.bind, HM.run] at hm
    obtain ⟨a, h1, k1, k2⟩ := ih _ hm
    exact ⟨a, h1, by simpa [HM.run] using k1, k2⟩
  | put b x k ih =>
    simp only [HM.bind] at hm
    obtain ⟨hl, hm⟩ := run_put hm
    obtain ⟨a, h1, k1, k2⟩ := ih hm
    refine ⟨a, h1, ?_, k2⟩
    simp only [HM.run]
    have : Nat.blt b lim = true := by simp [Nat.blt]; omega
    rw [this]; exact k1
theorem run_hval {m : HM AV} {h : Heap} {r : AOut × Heap} (hm : (hval m).run h = some r) : ∃ v h1, m.run h = some (v, h1) ∧ r = (.val v, h1) := by
  obtain ⟨v, h1, k1, k2⟩ := run_bind hm
  simp only [HM.run, Option.some.injEq] at k2
  exact ⟨v, h1, k1, k2.symm⟩
theorem run_lift {o : Option AV} {h : Heap} {r : AOut × Heap} (hm : (lift o).run h = some r) : ∃ v, o = some v ∧ r = (.val v, h) := by
  unfold lift at hm
  cases o with
  | none => simp [HM.run] at hm
  | some v => simp only [HM.run, Option.some.injEq] at hm; exact ⟨v, rfl, hm.symm⟩
def lent (c : Ctx) : Ctx := { c with F := fun k => c.F k ∨ c.O k, O := fun _ => False }
theorem lent_ext (c : Ctx) (w : World) : Ext c w (lent c) w :=
  ⟨fun _ _ _ h => h, fun _ h => .inl h, fun _ _ _ h => h, fun _ C _ fr h => ⟨C, fr, h, rfl⟩⟩
theorem mapH_sound {f : AV → HM AV} (hf : ∀ (x y : AV) (v : Value) (h' : Heap), VRel c w x v → (f x).run h = some (y, h') → h' = h ∧ VRel (lent c) w y v) :
    ∀ (xs ys : List AV) (vs : List Value) (h' : Heap), VRels c w xs vs → (mapH f xs).run h = some (ys, h') → h' = h ∧ VRels (lent c) w ys vs
  | [], ys, vs, h', hv, hm => by
    simp only [mapH, HM.run, Option.some.injEq, Prod.mk.injEq] at hm
    obtain ⟨rfl, rfl⟩ := hm
    simp only [VRels] at hv ⊢
    exact ⟨trivial, hv⟩
  | x :: xs, ys, vs, h', hv, hm => by
    simp only [mapH] at hm
    obtain ⟨y, h1, k1, k2⟩ := run_bind hm
    obtain ⟨ys', h2, k3, k4⟩ := run_bind k2
    simp only [VRels] at hv
    obtain ⟨v, vs', rfl, g1, g2⟩ := hv
    obtain ⟨e1, r1⟩ := hf x y v h1 g1 k1
    rw [e1] at k3
    obtain ⟨e2, r2⟩ := mapH_sound hf xs ys' vs' h2 g2 k3
    simp only [HM.run, Option.some.injEq, Prod.mk.injEq] at k4
    obtain ⟨rfl, rfl⟩ := k4
    simp only [VRels]
    exact ⟨e2, v, vs', rfl, r1, r2⟩
theorem mapH_pre {f : AV → HM AV} (hf : ∀ (x y : AV) (v : Value) (h' : Heap), VRel c w x v → (f x).run h = some (y, h') → h' = h ∧ VRel (lent c) w y v) :
    ∀ (xs ys : List AV) (vs : List Value) (h' : Heap), VPre c w xs vs → (mapH f xs).run h = some (ys, h') → h' = h ∧ VPre (lent c) w ys vs
  | [], ys, vs, h', hv, hm => by
    simp only [mapH, HM.run, Option.some.injEq, Prod.mk.injEq] at hm
    obtain ⟨rfl, rfl⟩ := hm
    simp [VPre]
  | x :: xs, ys, vs, h', hv, hm => by
    simp only [mapH] at hm
    obtain ⟨y, h1, k1, k2⟩ := run_bind hm
    obtain ⟨ys', h2, k3, k4⟩ := run_bind k2
    simp only [VPre] at hv
    obtain ⟨v, vs', rfl, g1, g2⟩ := hv
    obtain ⟨e1, r1⟩ := hf x y v h1 g1 k1
    rw [e1] at k3
    obtain ⟨e2, r2⟩ := mapH_pre hf xs ys' vs' h2 g2 k3
    simp only [HM.run, Option.some.injEq, Prod.mk.injEq] at k4
    obtain ⟨rfl, rfl⟩ := k4
    simp only [VPre]
    exact ⟨e2, v, vs', rfl, r1, r2⟩
theorem mapH_length {f : AV → HM AV} : ∀ (xs ys : List AV) (h h' : Heap), (mapH f xs).run h = some (ys, h') → ys.length = xs.length
  | [], ys, h, h', hm => by
    simp only [mapH, HM.run, Option.some.injEq, Prod.mk.injEq] at hm
    obtain ⟨rfl, rfl⟩ := hm; rfl
  | x :: xs, ys, h, h', hm => by
    simp only [mapH] at hm
    obtain ⟨y, h1, k1, k2⟩ := run_bind hm
    obtain ⟨ys', h2, k3, k4⟩ := run_bind k2
    simp only [HM.run, Option.some.injEq, Prod.mk.injEq] at k4
    obtain ⟨rfl, rfl⟩ := k4
    simp [mapH_length xs ys' _ _ k3]
theorem frz_sound (H : HRel c h w) : ∀ (d : Nat) (x y : AV) (v : Value) (h' : Heap), VRel c w x v → (frzH d x).run h = some (y, h') → h' = h ∧ VRel (lent c) w y v
  | 0, x, y, v, h', hv, hm => by
    simp only [frzH, HM.run, Option.some.injEq, Prod.mk.injEq] at hm
    obtain ⟨rfl, rfl⟩ := hm
    exact ⟨rfl, VRel.mono (lent_ext c w) _ _ hv⟩
  | d + 1, x, y, v, h', hv, hm => by
    have ih := frz_sound H d
    have same : (HM.ret x).run h = some (y, h') → h' = h ∧ VRel (lent c) w y v := by
      intro hm
      simp only [HM.run, Option.some.injEq, Prod.mk.injEq] at hm
      obtain ⟨rfl, rfl⟩ := hm
      exact ⟨rfl, VRel.mono (lent_ext c w) _ _ hv⟩
    cases x <;> simp only [frzH] at hm <;> try (exact same hm)
    case sl b g off len sz =>
      obtain ⟨cs, hb, hm⟩ := run_cells hm
      split at hm
      · rename_i hl
        obtain ⟨cs', h1, k1, k2⟩ := run_bind hm
        simp only [HM.run, Option.some.injEq, Prod.mk.injEq] at k2
        obtain ⟨rfl, rfl⟩ := k2
        have hlen := mapH_length _ _ _ _ k1
        simp only [VRel] at hv
        rcases hv with ⟨hp, rfl, rfl, rfl⟩ | ⟨cb, base, o, cap, C, e, fr, hp, rfl, hlc, hC, hcap⟩
        · have hcs' : cs' = [] := by
            apply List.eq_nil_of_length_eq_zero
            rw [hlen]; simp
          subst hcs'
          obtain ⟨rfl, _⟩ := mapH_pre ih _ _ [] _ (by simp [VPre]) k1
          exact ⟨rfl, by simp only [VRel]; exact .inl (by simp)⟩
        · obtain ⟨C', e', fr', hO, hC', hfr, hbs, hpre⟩ := H.here hb hp
          rw [hC] at hC'; cases hC'
          by_cases h0 : cap = 0
          · have hl0 : len = 0 := by omega
            subst hl0
            have hcs' : cs' = [] := by
              apply List.eq_nil_of_length_eq_zero
              rw [hlen]; simp
            subst hcs'
            obtain ⟨rfl, _⟩ := mapH_pre ih _ _ [] _ (by simp [VPre]) k1
            refine ⟨rfl, ?_⟩
            simp only [VRel]
            exact .inr ⟨cb, o, cap, C, e, fr, rfl, hlc, by simp, .inr hO, hC, by simp [VPre]⟩
          · obtain ⟨rfl, hbd⟩ := hcap.resolve_left h0
            have hp2 := VPre_take (len * sz) (VPre_drop off hpre)
            rw [List.drop_drop] at hp2
            obtain ⟨rfl, hr⟩ := mapH_pre ih _ _ _ _ hp2 k1
            refine ⟨rfl, ?_⟩
            simp only [VRel]
            exact .inr ⟨cb, base + off, cap, C, e, fr, rfl, hlc, by rw [hlen]; simp; omega, .inr hO, hC, hr⟩
      · simp [HM.run] at hm
    case ptr b g off =>
      obtain ⟨cs, hb, hm⟩ := run_cells hm
      obtain ⟨cs', h1, k1, k2⟩ := run_bind hm
      simp only [HM.run, Option.some.injEq, Prod.mk.injEq] at k2
      obtain ⟨rfl, rfl⟩ := k2
      simp only [VRel] at hv
      obtain ⟨cb, base, hp, rfl⟩ := hv
      obtain ⟨C, e, fr, hO, hC, hfr, hbs, hpre⟩ := H.here hb hp
      have hp2 := VPre_drop off hpre
      rw [List.drop_drop] at hp2
      obtain ⟨rfl, hr⟩ := mapH_pre ih _ _ _ _ hp2 k1
      refine ⟨rfl, ?_⟩
      simp only [VRel]
      exact ⟨cb, base + off, C, e, fr, rfl, .inr hO, hC, hr⟩
    case agg cs =>
      obtain ⟨cs', h1, k1, k2⟩ := run_bind hm
      simp only [HM.run, Option.some.injEq, Prod.mk.injEq] at k2
      obtain ⟨rfl, rfl⟩ := k2
      simp only [VRel] at hv
      obtain ⟨vs, rfl, hv⟩ := hv
      obtain ⟨rfl, hr⟩ := mapH_sound ih _ _ _ _ hv k1
      exact ⟨rfl, by simp only [VRel]; exact ⟨vs, rfl, hr⟩⟩
    case tup cs =>
      obtain ⟨cs', h1, k1, k2⟩ := run_bind hm
      simp only [HM.run, Option.some.injEq, Prod.mk.injEq] at k2
      obtain ⟨rfl, rfl⟩ := k2
      simp only [VRel] at hv
      obtain ⟨vs, rfl, hv⟩ := hv
      obtain ⟨rfl, hr⟩ := mapH_sound ih _ _ _ _ hv k1
      exact ⟨rfl, by simp only [VRel]; exact ⟨vs, rfl, hr⟩⟩
def TRel (c : Ctx) (w : World) (T : Tmps) (a : Act) : Prop := ∀ i, VRel c w (lk T i) (a.tmps.getD i undef)
theorem okOpd_rel {T : Tmps} {a : Act} (ht : TRel c w T a) {x : Operand} {y : Opd} (hok : okOpd x y = true) : VRel c w (ev T y) (a.eval x) := by
  cases x <;> cases y <;> simp only [okOpd, Bool.false_eq_true, beq_iff_eq] at hok
  · subst hok; exact ht _
  · exact cOK_rel _ _ hok
  · simp [ev, VRel]
  · subst hok; simp only [ev, VRel, Act.eval]; exact ⟨#[], #[], rfl, by simp [VRels], by simp [VRels]⟩
theorem okOpds_rel {T : Tmps} {a : Act} (ht : TRel c w T a) : ∀ {xs : List Operand} {ys : List Opd}, okOpds xs ys = true → VRels c w (evs T ys) (xs.map a.eval)
  | [], [], _ => by simp [evs, VRels]
  | [], _ :: _, hok => by simp [okOpds] at hok
  | _ :: _, [], hok => by simp [okOpds] at hok
  | x :: xs, y :: ys, hok => by
    simp only [okOpds, Bool.and_eq_true] at hok
    simp only [evs, List.map_cons, VRels]
    exact ⟨_, _, rfl, okOpd_rel ht hok.1, okOpds_rel ht hok.2⟩
theorem okOpdo_rel {T : Tmps} {a : Act} (ht : TRel c w T a) {x : Option Operand} {y : Option Opd} (hok : okOpdo x y = true) : ORel c w (evo T y) (x.map a.eval) := by
  cases x <;> cases y <;> simp only [okOpdo, Bool.false_eq_true] at hok
  · simp [evo, ORel]
  · exact okOpd_rel ht hok
theorem okParts_rel {T : Tmps} {a : Act} (ht : TRel c w T a) {place : Nat → Option (Nat × Nat)} : ∀ {xs : List (Nat × Operand)} {ys : List (Nat × Nat × Opd)}, okParts place xs ys = true →
    PartsRel c w place (evParts T ys) (xs.map fun p => (p.1, a.eval p.2))
  | [], [], _ => by simp [evParts, PartsRel]
  | [], _ :: _, hok => by simp [okParts] at hok
  | _ :: _, [], hok => by simp [okParts] at hok
  | (i, x) :: xs, (off, size, y) :: ys, hok => by
    simp only [okParts, Bool.and_eq_true] at hok
    obtain ⟨⟨h1, h2⟩, h3⟩ := hok
    simp only [evParts, List.map_cons, PartsRel]
    refine ⟨_, _, _, rfl, ?_, okOpd_rel ht h2, okParts_rel ht h3⟩
    split at h1
    · rename_i o s hp
      simp only [Bool.and_eq_true, beq_iff_eq] at h1
      rw [hp, h1.1, h1.2]
    · cases h1
def Callable (P : Program) (f : Nat) : Prop := ∃ fn, P.funcs[f]? = some fn ∧ fn.body.isSome = true ∧ (fn.name == "runtime.NumGoroutine") = false
def Done (P : Program) (c : Ctx) (h : Heap) (w : World) (s : Sem Next) : AOut → Heap → Prop
  | .val v, h' => ∃ nx cv c' w', s.run P w = .ok nx w' ∧ (nx = .value cv ∨ nx = .skip ∧ cv = undef) ∧ Evo c w c' w' ∧ HRel c' h' w' ∧ VRel c' w' v cv
  | .call m f args, h' => h' = h ∧ ∃ cargs : Array Value, (Callable P f → s.run P w = .ok (.enter f cargs) w) ∧ (m ≠ .borrow → VRels c w args cargs.toList) ∧ (m = .borrow → VRels (lent c) w args cargs.toList)
theorem Done.ofSound {s : Sem Value} {v : AV} {h' : Heap} (hs : Sound P c w s v h') : Done P c h w (do pure (.value (← s))) (.val v) h' := by
  obtain ⟨cv, c', w', h1, h2, h3, h4⟩ := hs
  exact ⟨.value cv, cv, c', w', by simp [h1], .inl rfl, h2, h3, h4⟩
theorem Done.ofPure {s : Sem Value} {v : AV} (H : HRel c h w) (hs : Pure P c w s v) : Done P c h w (do pure (.value (← s))) (.val v) h :=
  .ofSound (hs.sound H)
theorem Done.ofU {s : Sem Unit} {v : AV} {h' : Heap} (hs : SoundU P c w s h') (hv : v = .any) : Done P c h w (do s; pure .skip) (.val v) h' := by
  obtain ⟨c', w', h1, h2, h3⟩ := hs
  subst hv
  exact ⟨.skip, undef, c', w', by simp [h1], .inr ⟨rfl, rfl⟩, h2, h3, by simp [VRel]⟩
theorem same_eq {k k' : LK} (hh : LK.same k k' = true) : k = k' := by
  cases k <;> cases k' <;> simp [LK.same] at hh <;> rfl
theorem sames_eq : ∀ {ks ks' : List LK}, LK.sames ks ks' = true → ks = ks'
  | [], [], _ => rfl
  | [], _ :: _, hh => by simp [LK.sames] at hh
  | _ :: _, [], hh => by simp [LK.sames] at hh
  | k :: ks, k' :: ks', hh => by
    simp only [LK.sames, Bool.and_eq_true] at hh
    rw [same_eq hh.1, sames_eq hh.2]
theorem mapTB_of {t : TypeId} {row : Bool} {ks : List LK} (hh : mapTB P t row ks = true) : ∃ kt et, MapT P t row ks kt et := by
  unfold mapTB at hh
  split at hh
  · rename_i kt et hu
    simp only [Bool.and_eq_true, beq_iff_eq] at hh
    obtain ⟨h1, h2⟩ := hh
    split at h2
    · rename_i ks' hk
      exact ⟨kt, et, hu, by rw [hk, sames_eq h2], h1⟩
    · cases h2
  · cases hh
theorem zeroOf_some {t : TypeId} {zv : Value} (hh : zeroOf P t = some zv) : ∃ i, P.info? t = some i ∧ i.zero = some zv := by
  unfold zeroOf at hh
  cases hi : P.info? t with
  | none => simp [hi] at hh
  | some i => exact ⟨i, rfl, by simpa [hi] using hh⟩
theorem elemTB_of {t : TypeId} {sz bytes : Nat} {k : TypeInfo → Value → Bool} (hh : elemTB P t sz bytes k = true) :
    ∃ e ie z, P.underlying t = some (.slice e) ∧ P.info? e = some ie ∧ ie.size = sz ∧ ie.bytes = bytes ∧ ie.zero = some z ∧ k ie z = true := by
  unfold elemTB at hh
  split at hh
  · rename_i e hu
    split at hh
    · rename_i ie hi
      simp only [Bool.and_eq_true, beq_iff_eq] at hh
      obtain ⟨⟨h1, h2⟩, h3⟩ := hh
      split at h3
      · rename_i z hz
        exact ⟨e, ie, z, hu, hi, h1, h2, hz, h3⟩
      · cases h3
    · cases hh
  · cases hh
theorem nil_sound {x v : AV} {cx : Value} (hx : VRel c w x cx) (hm : aNil x = some v) :
    (match cx with
    | .pointer none | .nilIface | .nilFunc => (runtimePanic .nilDeref : Sem Next)
    | .func (.method name) first captured =>
      match (first[0]? : Option Value) with
      | some .nilIface => runtimePanic .nilDeref
      | some (.iface t w) => do
        if (← nilAhead ((← program).types.size + Made.depth) t w name) != some false then
          unsupported (.noEntry "op/nilCheck.the method's receiver behind this interface value is a nil pointer, or cannot be seen to be none, and the arguments act or may panic (ledger 612)")
        pure (.value (.func (.method name) first captured))
      | _ => pure (.value (.func (.method name) first captured))
    | x => pure (.value x)) = pure (.value cx) ∧ v = x := by
  unfold aNil at hm
  split at hm <;> first | (cases hm; done) | (cases hm; simp only [VRel] at hx)
  · obtain ⟨_, _, _, rfl⟩ := hx; exact ⟨rfl, rfl⟩
  · obtain ⟨_, _, _, _, _, rfl, _⟩ := hx; exact ⟨rfl, rfl⟩
  · obtain ⟨_, _, rfl, _⟩ := hx; exact ⟨rfl, rfl⟩
  · obtain ⟨_, rfl, _⟩ := hx; exact ⟨rfl, rfl⟩
theorem run_callFunc {f : Nat} {args : Array Value} (hc : Callable P f) (w : World) : (callFunc f args).run P w = .ok (.enter f args) w := by
  obtain ⟨fn, h1, h2, h3⟩ := hc
  have h4 : fn.body.isNone = false := by
    cases hb : fn.body with
    | none => simp [hb] at h2
    | some b => rfl
  simp only [callFunc, Sem.run_bind, run_program, Result.andThen_ok, h1, h3, h4, Bool.false_eq_true, if_false, Sem.run_pure]
theorem callv_sound {x : AV} {args : List AV} {cx : Value} {cargs : Array Value} {m : CallM} {out : AOut} {h' : Heap} (H : HRel c h w) (hx : VRel c w x cx) (ha : VRels c w args cargs.toList)
    (hm : (aCall m x args).run h = some (out, h')) : Done P c h w (do let d ← Deferred.ofValue cx cargs; invoke d.target d.args) out h' := by
  cases x <;> simp only [aCall] at hm <;> try (cases hm; done)
  rename_i f first captured
  simp only [VRel] at hx
  obtain ⟨x', y', rfl, h1, h2⟩ := hx
  have hall : VRels c w (first ++ args ++ captured) (x' ++ cargs ++ y').toList := by
    simpa using VRels_append (VRels_append h1 ha) h2
  have hrun : Callable P f → (do let d ← Deferred.ofValue (.func (.func f) x' y') cargs; invoke d.target d.args : Sem Next).run P w = .ok (.enter f (x' ++ cargs ++ y')) w := by
    intro hc
    simp [Deferred.ofValue, invoke, run_callFunc hc]
  have plain : ∀ m', m' ≠ .borrow → (HM.ret (AOut.call m' f (first ++ args ++ captured))).run h = some (out, h') → Done P c h w (do let d ← Deferred.ofValue (.func (.func f) x' y') cargs; invoke d.target d.args) out h' := by
    intro m' hne hm
    simp only [HM.run, Option.some.injEq, Prod.mk.injEq] at hm
    obtain ⟨rfl, rfl⟩ := hm
    exact ⟨rfl, _, hrun, fun _ => hall, fun e => absurd e hne⟩
  cases m with
  | heap => exact plain _ (by simp) hm
  | pure => exact plain _ (by simp) hm
  | borrow =>
    simp only at hm
    obtain ⟨asx, h1', k1, k2⟩ := run_bind hm
    simp only [HM.run, Option.some.injEq, Prod.mk.injEq] at k2
    obtain ⟨rfl, rfl⟩ := k2
    obtain ⟨rfl, hr⟩ := mapH_sound (frz_sound H 4) _ _ _ _ hall k1
    exact ⟨rfl, _, hrun, fun e => absurd rfl e, fun _ => hr⟩
theorem call_sound {cl : Call} {ty : TypeId} {s : SOp} {i : Nat} {T : Tmps} {a : Act} {out : AOut} {h' : Heap} (H : HRel c h w) (ht : TRel c w T a) (hok : okCall P cl s = true) (hm : (aop i T s).run h = some (out, h')) :
    Done P c h w (do let d ← resolve a.eval cl ty; invoke d.target d.args) out h' := by
  obtain ⟨callee, args, argTypes⟩ := cl
  unfold okCall at hok
  simp only at hok
  split at hok
  · rename_i f m x xs
    simp only [Bool.and_eq_true] at hok
    have hargs : VRels c w (evs T xs) (args.map a.eval).toList := by simpa using okOpds_rel ht hok.2
    exact callv_sound H (okOpd_rel ht hok.1) hargs hm
  · rename_i k x
    split at hok
    · rename_i y t e1 e2
      simp only [Bool.and_eq_true] at hok
      obtain ⟨v, h1, k1, k2⟩ := run_hval hm
      cases k2
      unfold aLenC at k1
      split at k1
      · rename_i hk
        have hs := len_sound (P := P) (ty := ty) H (okOpd_rel ht hok.1) (by rw [hk]; exact hok.2) k1
        have : (do let d ← resolve a.eval { callee := .builtin .len, args := args, argTypes := argTypes } ty; invoke d.target d.args : Sem Next) = (do pure (.value (← Builtin.len_ #[t] ty #[a.eval y]))) := by
          have ea : args = #[y] := by apply Array.ext'; simpa using e1
          have eb : argTypes = #[t] := by apply Array.ext'; simpa using e2
          subst ea; subst eb
          simp [resolve, invoke, builtin]
        rw [this]
        exact .ofSound hs
      · simp [HM.run] at k1
    · cases hok
  · rename_i st sz bytes x y
    split at hok
    · rename_i x' y' t t2 e1 e2
      simp only [Bool.and_eq_true] at hok
      obtain ⟨⟨⟨g1, g2⟩, g3⟩, g4⟩ := hok
      obtain ⟨v, h1, k1, k2⟩ := run_hval hm
      cases k2
      obtain ⟨e, ie, z, hu, hi, hsz, hby, hz, hzs⟩ := elemTB_of g4
      have hnot : ∃ d2, P.underlying t2 = some d2 ∧ ∀ k, d2 ≠ .int k := by
        unfold notInt at g3
        split at g3
        · cases g3
        · cases g3
        · rename_i h1 h2
          cases hd : P.underlying t2 with
          | none => exact absurd hd h2
          | some d => exact ⟨d, rfl, fun k e => h1 k (by rw [hd, e])⟩
      have hs := append_sound (P := P) (ty := ty) H (okOpd_rel ht g1) (okOpd_rel ht g2) (T := ⟨hu, hnot, hi, hz, hsz, hby, by simpa using hzs⟩) k1
      have : (do let d ← resolve a.eval { callee := .builtin .append, args := args, argTypes := argTypes } ty; invoke d.target d.args : Sem Next) = (do pure (.value (← Builtin.append_ #[t, t2] ty #[a.eval x', a.eval y']))) := by
        have ea : args = #[x', y'] := by apply Array.ext'; simpa using e1
        have eb : argTypes = #[t, t2] := by apply Array.ext'; simpa using e2
        subst ea; subst eb
        simp [resolve, invoke, builtin]
      rw [this]
      exact .ofSound hs
    · cases hok
  · rename_i sz x y
    split at hok
    · rename_i x' y' t t2 e1 e2
      simp only [Bool.and_eq_true] at hok
      obtain ⟨⟨g1, g2⟩, g3⟩ := hok
      obtain ⟨v, h1, k1, k2⟩ := run_hval hm
      cases k2
      split at g3
      · rename_i e hu
        split at g3
        · rename_i ie hi
          have hs := copy_sound (P := P) (ty := ty) (t2 := t2) H (okOpd_rel ht g1) (okOpd_rel ht g2) hu hi (by simpa using g3) k1
          have : (do let d ← resolve a.eval { callee := .builtin .copy, args := args, argTypes := argTypes } ty; invoke d.target d.args : Sem Next) = (do pure (.value (← Builtin.copy_ #[t, t2] ty #[a.eval x', a.eval y']))) := by
            have ea : args = #[x', y'] := by apply Array.ext'; simpa using e1
            have eb : argTypes = #[t, t2] := by apply Array.ext'; simpa using e2
            subst ea; subst eb
            simp [resolve, invoke, builtin]
          rw [this]
          exact .ofSound hs
        · cases g3
      · cases g3
    · cases hok
  · rename_i xs
    obtain ⟨v, k1, k2⟩ := run_lift hm
    cases k2
    have hargs : VRels c w (evs T xs) (args.map a.eval).toList := by simpa using okOpds_rel ht hok
    exact .ofPure H (max_sound (P := P) (mn := false) (ats := argTypes) (ty := ty) hargs k1)
  · rename_i xs
    obtain ⟨v, k1, k2⟩ := run_lift hm
    cases k2
    have hargs : VRels c w (evs T xs) (args.map a.eval).toList := by simpa using okOpds_rel ht hok
    exact .ofPure H (max_sound (P := P) (mn := true) (ats := argTypes) (ty := ty) hargs k1)
  · rename_i g k f xs
    simp only [Bool.and_eq_true, beq_iff_eq] at hok
    obtain ⟨⟨rfl, g2⟩, g3⟩ := hok
    obtain ⟨v, k1, k2⟩ := run_lift hm
    cases k2
    have hargs : VRels c w (evs T xs) (args.map a.eval).toList := by simpa using okOpds_rel ht g3
    obtain ⟨cv, hr, hv⟩ := ext_sound g2 hargs k1
    refine ⟨.value cv, cv, c, w, ?_, .inl rfl, .refl c w, H, hv⟩
    simp [resolve, Deferred.ofValue, invoke, Act.eval, hr]
  · cases hok
theorem mupd_any {row : Bool} {ks : List LK} {x k v r : AV} {h' : Heap} (hm : (aMapUpd row ks x k v).run h = some (r, h')) : r = .any := by
  unfold aMapUpd at hm
  split at hm
  · split at hm
    · obtain ⟨es, _, hm⟩ := run_entries hm
      split at hm
      · obtain ⟨_, hm⟩ := run_put hm
        simp only [HM.run, Option.some.injEq, Prod.mk.injEq] at hm
        exact hm.1.symm
      · obtain ⟨_, hm⟩ := run_put hm
        simp only [HM.run, Option.some.injEq, Prod.mk.injEq] at hm
        exact hm.1.symm
      · simp [HM.run] at hm
    · simp [HM.run] at hm
  · simp [HM.run] at hm
set_option maxHeartbeats 4000000 in
theorem op_sound {o : Oper} {s : SOp} {i : Nat} {T : Tmps} {a : Act} {out : AOut} {h' : Heap} (H : HRel c h w) (ht : TRel c w T a) (hok : okOp P o.op s = true) (hm : (aop i T s).run h = some (out, h')) :
    Done P c h w (execOp a.eval o) out h' := by
  obtain ⟨dst, op, ty, pos, after, guard⟩ := o
  simp only at hok
  have keep : ∀ {v : AV} {cv : Value}, VRel c w v cv → Done P c h w (pure (.value cv)) (.val v) h := fun {v cv} hv => ⟨.value cv, cv, c, w, rfl, .inl rfl, .refl c w, H, hv⟩
  unfold okOp at hok
  split at hok
  · -- move
    simp only [aop, HM.run, Option.some.injEq, Prod.mk.injEq] at hm
    obtain ⟨rfl, rfl⟩ := hm
    exact keep (okOpd_rel ht hok)
  · simp only [aop, HM.run, Option.some.injEq, Prod.mk.injEq] at hm
    obtain ⟨rfl, rfl⟩ := hm
    exact keep (okOpd_rel ht hok)
  · -- pick
    rename_i x y z x' y' z'
    simp only [Bool.and_eq_true] at hok
    obtain ⟨v, k1, k2⟩ := run_lift hm
    cases k2
    have h1 := okOpd_rel ht hok.1.1
    unfold aPick at k1
    split at k1
    · rename_i t e
      rw [e] at h1
      simp only [VRel] at h1
      cases k1
      have e1 : execOp a.eval { dst, op := .pick x y z, type := ty, pos, after, guard } = (do pure (.value (if ← asBool (a.eval x) then a.eval y else a.eval z))) := rfl
      rw [e1, h1]
      refine ⟨.value (if t then a.eval y else a.eval z), _, c, w, by simp [asBool], .inl rfl, .refl c w, H, ?_⟩
      cases t
      · exact okOpd_rel ht hok.2
      · exact okOpd_rel ht hok.1.2
    · cases k1
  · -- alloc
    rename_i t st z
    split at hok
    · rename_i zv hz
      obtain ⟨ti, hi, hz'⟩ := zeroOf_some hz
      obtain ⟨v, h1, k1, k2⟩ := run_hval hm
      cases k2
      exact .ofSound (alloc_sound (P := P) H hi hz' hok k1)
    · cases hok
  · -- box
    obtain ⟨v, h1, k1, k2⟩ := run_hval hm
    cases k2
    exact .ofSound (box_sound (P := P) H (okOpd_rel ht hok) k1)
  · -- build
    rename_i t parts zero ps
    simp only [Bool.and_eq_true] at hok
    obtain ⟨⟨g1, g2⟩, g3⟩ := hok
    obtain ⟨v, k1, k2⟩ := run_lift hm
    cases k2
    split at g1
    · rename_i zv hz
      have hb : (∃ n e ie, P.underlying t = some (.array n e) ∧ P.info? e = some ie) ∨ (∃ fields places, P.underlying t = some (.struct fields) ∧ fields.toList.mapM (fun f => (P.info? f.type).map fun i => (f.offset, i.size)) = some places) := by
        unfold buildTB at g2
        split at g2
        · rename_i n e hu
          obtain ⟨ie, hie⟩ := Option.isSome_iff_exists.1 g2
          exact .inl ⟨n, e, ie, hu, hie⟩
        · rename_i fields hu
          obtain ⟨pl, hpl⟩ := Option.isSome_iff_exists.1 g2
          exact .inr ⟨fields, pl, hu, hpl⟩
        · cases g2
      have e1 : execOp a.eval { dst, op := .build t parts, type := ty, pos, after, guard } = (do pure (.value (← Instr.build t (parts.map fun (i, x) => (i, a.eval x))))) := rfl
      have hps : PartsRel c w (placeOf P t) (evParts T ps) (parts.map fun (i, x) => (i, a.eval x)).toList := by
        simpa using okParts_rel ht g3
      have hs := build_sound (P := P) H hz g1 hb hps k1
      rw [e1]
      exact .ofSound hs
    · cases g1
  · -- buildSlice
    rename_i t len parts fz st sz len' zero ps
    simp only [Bool.and_eq_true, beq_iff_eq, decide_eq_true_eq] at hok
    obtain ⟨⟨⟨rfl, g2⟩, g3⟩, g4⟩ := hok
    obtain ⟨v, h1, k1, k2⟩ := run_hval hm
    cases k2
    split at g3
    · rename_i e hu
      split at g3
      · rename_i ie hi
        simp only [Bool.and_eq_true, beq_iff_eq] at g3
        obtain ⟨g5, g6⟩ := g3
        split at g6
        · rename_i z hz
          have e1 : execOp a.eval { dst, op := .buildSlice t len parts, type := ty, pos, after, guard } = (do pure (.value (← Instr.buildSlice t len (parts.map fun (i, x) => (i, a.eval x))))) := rfl
          have hps : PartsRel c w (fun i => some (i * sz, sz)) (evParts T ps) (parts.map fun (i, x) => (i, a.eval x)).toList := by
            simpa using okParts_rel ht g4
          have hs := buildSlice_sound (P := P) H hu hi g5 hz g2 g6 hps k1
          rw [e1]
          exact .ofSound hs
        · cases g6
      · cases g3
    · cases g3
  · -- load
    simp only [Bool.and_eq_true] at hok
    obtain ⟨v, h1, k1, k2⟩ := run_hval hm
    cases k2
    exact .ofSound (load_sound (P := P) H (okOpd_rel ht hok.2) hok.1 k1)
  · -- store
    rename_i t x v n x' v'
    simp only [Bool.and_eq_true] at hok
    obtain ⟨⟨g1, g2⟩, g3⟩ := hok
    obtain ⟨r, h1, k1, k2⟩ := run_hval hm
    cases k2
    split at g1
    · rename_i ti hi
      have hsz : ∀ w, (sizeOf t).run P w = .ok n w := fun w => by
        have := run_sizeOf hi w
        rwa [show ti.size = n by simpa using g1] at this
      have hany : r = .any := by
        unfold aStore at k1
        split at k1
        · obtain ⟨cs, _, k1⟩ := run_cells k1
          split at k1
          · obtain ⟨_, k1⟩ := run_put k1
            simp only [HM.run, Option.some.injEq, Prod.mk.injEq] at k1
            exact k1.1.symm
          · simp [HM.run] at k1
        · simp [HM.run] at k1
      exact .ofU (store_sound (P := P) H (okOpd_rel ht g2) (okOpd_rel ht g3) hsz k1) hany
    · cases g1
  · -- nilCheck
    rename_i x y
    obtain ⟨v, k1, k2⟩ := run_lift hm
    cases k2
    have hx := okOpd_rel ht hok
    obtain ⟨e1, rfl⟩ := nil_sound hx k1
    have : execOp a.eval { dst, op := .nilCheck x, type := ty, pos, after, guard } = pure (.value (a.eval x)) := e1
    rw [this]
    exact keep hx
  · -- binOp
    rename_i op t x y yt op' x' y'
    simp only [Bool.and_eq_true, beq_iff_eq] at hok
    obtain ⟨⟨rfl, g2⟩, g3⟩ := hok
    obtain ⟨v, k1, k2⟩ := run_lift hm
    cases k2
    have hx := okOpd_rel ht g2
    have hy := okOpd_rel ht g3
    have hp := bin_sound (P := P) (t := t) hx hy k1
    have hg : (eqGuard op t x y (a.eval x) (a.eval y)) = pure () := by
      unfold aBin at k1
      split at k1
      · rename_i e1 e2
        rw [e1] at hx
        simp only [VRel] at hx
        rw [hx]; cases op <;> rfl
      · rename_i e1 e2
        rw [e1] at hx
        simp only [VRel] at hx
        rw [hx]; cases op <;> rfl
      · cases k1
    have : execOp a.eval { dst, op := .binOp op t x y yt, type := ty, pos, after, guard } = (do pure (.value (← (do eqGuard op t x y (a.eval x) (a.eval y); binOp op t (a.eval x) (a.eval y))))) := rfl
    rw [this, hg]
    exact .ofPure H hp
  · -- eq
    rename_i op t x y yt k neg x' y'
    simp only [Bool.and_eq_true, beq_iff_eq] at hok
    obtain ⟨⟨⟨⟨g1, g2⟩, g3⟩, g4⟩, g5⟩ := hok
    obtain ⟨v, k1, k2⟩ := run_lift hm
    cases k2
    refine .ofPure H (eq_sound (P := P) (ox := x) (oy := y) g1 (okOpd_rel ht g3) (okOpd_rel ht g4) g2 ?_ k1)
    intro kind e
    subst e
    cases y <;> simp [isConstO] at g5
    exact ⟨_, rfl⟩
  · -- unOp
    simp only [Bool.and_eq_true, beq_iff_eq] at hok
    obtain ⟨rfl, g2⟩ := hok
    obtain ⟨v, k1, k2⟩ := run_lift hm
    cases k2
    exact .ofPure H (un_sound (P := P) (okOpd_rel ht g2) k1)
  · -- conv
    simp only [Bool.and_eq_true] at hok
    obtain ⟨v, k1, k2⟩ := run_lift hm
    cases k2
    exact .ofPure H (conv_sound (P := P) (okOpd_rel ht hok.2) hok.1 k1)
  · simp only [Bool.and_eq_true] at hok
    obtain ⟨v, k1, k2⟩ := run_lift hm
    cases k2
    exact .ofPure H (convS_sound (P := P) (okOpd_rel ht hok.2) hok.1 k1)
  · simp only [Bool.and_eq_true] at hok
    obtain ⟨v, h1, k1, k2⟩ := run_hval hm
    cases k2
    exact .ofSound (convB_sound (P := P) H (okOpd_rel ht hok.2) hok.1 k1)
  · -- makeFunc
    rename_i f first captured f' xs ys
    simp only [Bool.and_eq_true, beq_iff_eq] at hok
    obtain ⟨⟨rfl, g2⟩, g3⟩ := hok
    simp only [aop, HM.run, Option.some.injEq, Prod.mk.injEq] at hm
    obtain ⟨rfl, rfl⟩ := hm
    have : execOp a.eval { dst, op := .makeFunc (.func f) first captured, type := ty, pos, after, guard } = pure (.value (.func (.func f) (first.map a.eval) (captured.map a.eval))) := rfl
    rw [this]
    refine keep ?_
    simp only [VRel]
    exact ⟨_, _, rfl, by simpa using okOpds_rel ht g2, by simpa using okOpds_rel ht g3⟩
  · -- makeMap
    obtain ⟨v, h1, k1, k2⟩ := run_hval hm
    cases k2
    exact .ofSound (makeMap_sound (P := P) (reserve := none) (by simp) H k1)
  · -- makeSlice
    rename_i t l cc st sz bytes zero l' c'
    simp only [Bool.and_eq_true] at hok
    obtain ⟨⟨g1, g2⟩, g3⟩ := hok
    obtain ⟨v, h1, k1, k2⟩ := run_hval hm
    cases k2
    obtain ⟨e, ie, z, hu, hi, hsz, hby, hz, hk⟩ := elemTB_of g3
    simp only [Bool.and_eq_true, beq_iff_eq] at hk
    exact .ofSound (makeSlice_sound (P := P) H (okOpd_rel ht g1) (okOpd_rel ht g2) hu hi hsz hby hz hk.1 hk.2 k1)
  · -- slice
    rename_i t x l hi mx sz x' l' h' m'
    simp only [Bool.and_eq_true] at hok
    obtain ⟨⟨⟨⟨g1, g2⟩, g3⟩, g4⟩, g5⟩ := hok
    obtain ⟨v, k1, k2⟩ := run_lift hm
    cases k2
    have hx := okOpd_rel ht g2
    have hl := okOpdo_rel ht g3
    have hh := okOpdo_rel ht g4
    have hmx := okOpdo_rel ht g5
    refine .ofPure H ?_
    unfold aSliceC at k1
    split at k1
    · rename_i n b g off len s e
      split at k1
      · rename_i e2; subst e2
        rw [e] at hx k1
        exact slice_sound (P := P) hx hl hh hmx g1 (fun _ _ _ _ _ e => by cases e; rfl) (fun _ _ _ e => by cases e) (fun ⟨_, e⟩ => by cases e) (.inr (by simp)) k1
      · cases k1
    · rename_i n cs len s e
      split at k1
      · rename_i e2; subst e2
        rw [e] at hx k1
        exact slice_sound (P := P) hx hl hh hmx g1 (fun _ _ _ _ _ e => by cases e) (fun _ _ _ e => by cases e; rfl) (fun ⟨_, e⟩ => by cases e) (.inr (by simp)) k1
      · cases k1
    · rename_i n e
      rw [e] at hx k1
      exact slice_sound (P := P) hx hl hh hmx g1 (fun _ _ _ _ _ e => by cases e) (fun _ _ _ e => by cases e) (fun ⟨_, e⟩ => by cases e) (.inr (by simp)) k1
    · rename_i n e
      rw [e] at hx k1
      exact slice_sound (P := P) hx hl hh hmx g1 (fun _ _ _ _ _ e => by cases e) (fun _ _ _ e => by cases e) (fun ⟨_, e⟩ => by cases e) (.inr (by simp)) k1
    · rename_i s e
      rw [e] at hx k1
      exact slice_sound (P := P) hx hl hh hmx g1 (fun _ _ _ _ _ e => by cases e) (fun _ _ _ e => by cases e) (fun _ => rfl) (.inl ⟨_, rfl⟩) k1
    · cases k1
  · -- fieldAddr
    simp only [Bool.and_eq_true] at hok
    obtain ⟨v, k1, k2⟩ := run_lift hm
    cases k2
    exact .ofPure H (faddr_sound (P := P) (okOpd_rel ht hok.2) hok.1 k1)
  · simp only [Bool.and_eq_true] at hok
    obtain ⟨v, k1, k2⟩ := run_lift hm
    cases k2
    exact .ofPure H (field_sound (P := P) (okOpd_rel ht hok.2) hok.1 k1)
  · simp only [Bool.and_eq_true] at hok
    obtain ⟨v, k1, k2⟩ := run_lift hm
    cases k2
    exact .ofPure H (iaddr_sound (P := P) (okOpd_rel ht hok.1.2) (okOpd_rel ht hok.2) hok.1.1 k1)
  · simp only [Bool.and_eq_true] at hok
    obtain ⟨v, k1, k2⟩ := run_lift hm
    cases k2
    exact .ofPure H (index_sound (P := P) (okOpd_rel ht hok.1.2) (okOpd_rel ht hok.2) hok.1.1 k1)
  · -- lookup
    rename_i t x k ok row ks zero ok' x' k'
    simp only [Bool.and_eq_true, beq_iff_eq] at hok
    obtain ⟨⟨⟨⟨g1, g2⟩, rfl⟩, g4⟩, g5⟩ := hok
    obtain ⟨v, h1, k1, k2⟩ := run_hval hm
    cases k2
    obtain ⟨kt, et, M⟩ := mapTB_of g1
    unfold mapElemZero at g2
    rw [M.hu] at g2
    simp only at g2
    split at g2
    · rename_i zv hz
      obtain ⟨ti, hi, hz'⟩ := zeroOf_some hz
      exact .ofSound (lookup_sound (P := P) H M (okOpd_rel ht g4) (okOpd_rel ht g5) hi hz' g2 k1)
    · cases g2
  · -- mapUpdate
    simp only [Bool.and_eq_true] at hok
    obtain ⟨⟨⟨g1, g2⟩, g3⟩, g4⟩ := hok
    obtain ⟨r, h1, k1, k2⟩ := run_hval hm
    cases k2
    obtain ⟨kt, et, M⟩ := mapTB_of g1
    exact .ofU (mapUpd_sound (P := P) H M (okOpd_rel ht g2) (okOpd_rel ht g3) (okOpd_rel ht g4) k1) (mupd_any k1)
  · simp only [Bool.and_eq_true] at hok
    obtain ⟨⟨⟨g1, g2⟩, g3⟩, g4⟩ := hok
    obtain ⟨r, h1, k1, k2⟩ := run_hval hm
    cases k2
    obtain ⟨kt, et, M⟩ := mapTB_of g1
    exact .ofU (mapUpd_sound (P := P) H M (okOpd_rel ht g2) (okOpd_rel ht g3) (okOpd_rel ht g4) k1) (mupd_any k1)
  · -- extract
    simp only [Bool.and_eq_true, beq_iff_eq] at hok
    obtain ⟨rfl, g2⟩ := hok
    obtain ⟨v, k1, k2⟩ := run_lift hm
    cases k2
    exact .ofPure H (extract_sound (P := P) (okOpd_rel ht g2) k1)
  · simp only [aop, HM.run] at hm; cases hm
  · -- call
    exact call_sound (P := P) (ty := ty) H ht hok hm
  · cases hok
end Go.AM
set_option linter.unusedSimpArgs false
set_option linter.unusedVariables false
namespace Go.AM
variable {P : Program}
def HSpec (P : Program) (f : Nat) (args : List AV) (h : Heap) (v : AV) (h' : Heap) : Prop :=
  Callable P f ∧ ∀ (c : Ctx) (w : World) (cargs : Array Value), HRel c h w → VRels c w args cargs.toList →
    Calls P f cargs w fun e w' => ∃ cv c', e = .returned cv ∧ Evo c w c' w' ∧ HRel c' h' w' ∧ VRel c' w' v cv
def PSpec (P : Program) (f : Nat) (args : List AV) (v : AV) : Prop :=
  noRefs args = true ∧ noRef v = true ∧ ∃ h', HSpec P f args .e v h'
def HM.fp {α : Type} : HM α → Heap → List Nat × List Nat
  | .ret _, _ => ([], [])
  | .fail, _ => ([], [])
  | .look b k, h => let r := (k (h.get b)).fp h; (b :: r.1, r.2)
  | .put b x k, h => let r := k.fp (h.set b x); (r.1, b :: r.2)
theorem HM.local {α : Type} (m : HM α) : ∀ (h h' : Heap) (a : α) (h1 : Heap), m.run h = some (a, h1) → (∀ b ∈ (m.fp h).1, h.get b = h'.get b) →
    ∃ h1', m.run h' = some (a, h1') ∧ m.fp h' = m.fp h ∧ (∀ b ∈ (m.fp h).2, h1'.get b = h1.get b) ∧ (∀ b, b ∉ (m.fp h).2 → h1'.get b = h'.get b) ∧ (∀ b, b ∉ (m.fp h).2 → h1.get b = h.get b) := by
  induction m with
  | ret x =>
    intro h h' a h1 hm _
    simp only [HM.run, Option.some.injEq, Prod.mk.injEq] at hm
    obtain ⟨rfl, rfl⟩ := hm
    exact ⟨h', rfl, rfl, by simp [HM.fp], by simp, by simp⟩
  | fail => intro h h' a h1 hm; simp [HM.run] at hm
  | look b k ih =>
    intro h h' a h1 hm hag
    simp only [HM.run] at hm
    simp only [HM.fp] at hag ⊢
    have hb : h.get b = h'.get b := hag b (by simp)
    obtain ⟨h1', k1, k2, k3, k4, k5⟩ := ih _ h h' a h1 hm (fun b' hb' => hag b' (by simp [hb']))
    rw [← hb]
    refine ⟨h1', by simp only [HM.run, ← hb]; exact k1, by rw [k2], k3, k4, k5⟩
  | put b x k ih =>
    intro h h' a h1 hm hag
    obtain ⟨hl, hm⟩ := run_put hm
    simp only [HM.fp] at hag ⊢
    obtain ⟨h1', k1, k2, k3, k4, k5⟩ := ih (h.set b x) (h'.set b x) a h1 hm (fun b' hb' => by
      rw [Tr.get_set _ hl, Tr.get_set _ hl]
      split
      · rfl
      · exact hag b' hb')
    refine ⟨h1', ?_, by rw [k2], ?_, ?_, ?_⟩
    · simp only [HM.run]
      have : Nat.blt b lim = true := by simp [Nat.blt]; omega
      rw [this]; exact k1
    · intro b' hb'
      by_cases hin : b' ∈ (k.fp (h.set b x)).2
      · exact k3 b' hin
      · have : b' = b := by simpa [hin] using hb'
        subst this
        rw [k4 b' hin, k5 b' hin, Tr.get_set _ hl, Tr.get_set _ hl]; simp
    · intro b' hb'
      have h1 : b' ≠ b := fun e => hb' (by simp [e])
      have h2 : b' ∉ (k.fp (h.set b x)).2 := fun e => hb' (by simp [e])
      rw [k4 b' h2, Tr.get_set _ hl, if_neg h1]
    · intro b' hb'
      have h1 : b' ≠ b := fun e => hb' (by simp [e])
      have h2 : b' ∉ (k.fp (h.set b x)).2 := fun e => hb' (by simp [e])
      rw [k5 b' h2, Tr.get_set _ hl, if_neg h1]
theorem lk_up (T : Tmps) (i : Nat) (v : AV) (j : Nat) : lk (up T i v) j = if j = i then v else lk T j := by
  induction T with
  | nil =>
    simp only [up, lk]
    by_cases e : j = i
    · subst e; simp [lk, cond]
    · have : Nat.beq i j = false := by rw [Bool.eq_false_iff]; simpa using fun h => e h.symm
      rw [this]; simp [e, lk]
  | cons p T ih =>
    obtain ⟨k, u⟩ := p
    simp only [up]
    by_cases hk : k = i
    · subst hk
      have : Nat.beq k k = true := by simp
      rw [this]
      simp only [cond_true, lk]
      by_cases e : j = k
      · subst e; rw [this]; simp
      · have h2 : Nat.beq k j = false := by rw [Bool.eq_false_iff]; simpa using fun h => e h.symm
        rw [h2]; simp [e]
    · have : Nat.beq k i = false := by rw [Bool.eq_false_iff]; simpa using hk
      rw [this]
      simp only [cond_false, lk, ih]
      by_cases e : j = i
      · subst e
        have h2 : Nat.beq k j = false := this
        rw [h2]; simp
      · simp [e]
def putD (T : Tmps) (dst : Option Nat) (v : AV) : Tmps :=
  match dst with
  | some d => up T d v
  | none => T
theorem lk_putD (T : Tmps) (dst : Option Nat) (v : AV) (j : Nat) : lk (putD T dst v) j = if dst = some j then v else lk T j := by
  cases dst with
  | none => simp [putD]
  | some d =>
    simp only [putD, lk_up, Option.some.injEq]
    by_cases e : j = d
    · subst e; simp
    · rw [if_neg e, if_neg (fun h => e h.symm)]
def Opd.slots : Opd → List Nat
  | .t i => [i]
  | _ => []
def slotsOf (xs : List Opd) : List Nat := xs.flatMap Opd.slots
def SOp.opds : SOp → List Opd
  | .mov x | .box _ x | .load _ x | .nilchk x | .un _ x | .conv _ x | .convS x | .convB x | .faddr _ x | .field _ _ x | .extract _ x | .len _ x => [x]
  | .pick c a b => [c, a, b]
  | .alloc _ _ | .mkmap _ | .bad => []
  | .build _ ps | .bslice _ _ _ _ _ ps => ps.map fun p => p.2.2
  | .store _ x v | .bin _ x v | .eq _ _ x v | .iaddr _ _ x v | .index _ x v | .append _ _ _ x v | .copy _ x v | .lookup _ _ _ _ x v | .mkslice _ _ _ _ x v => [x, v]
  | .mkfn _ xs ys => xs ++ ys
  | .slice _ x l h m => [x] ++ l.toList ++ h.toList ++ m.toList
  | .mupd _ _ x k v => [x, k, v]
  | .maxmin _ xs => xs
  | .ext _ _ xs => xs
  | .call _ x args => x :: args
theorem ev_congr {T T' : Tmps} {x : Opd} (h : ∀ i ∈ x.slots, lk T i = lk T' i) : ev T x = ev T' x := by
  cases x <;> simp only [ev]
  exact h _ (by simp [Opd.slots])
theorem slots_mem {xs : List Opd} {x : Opd} (hx : x ∈ xs) {i : Nat} (hi : i ∈ x.slots) : i ∈ slotsOf xs := List.mem_flatMap.2 ⟨x, hx, hi⟩
theorem aop_congr {i : Nat} {T T' : Tmps} {s : SOp} (h : ∀ j ∈ slotsOf s.opds, lk T j = lk T' j) : aop i T s = aop i T' s := by
  have one : ∀ x ∈ s.opds, ev T x = ev T' x := fun x hx => ev_congr fun j hj => h j (slots_mem hx hj)
  cases s <;> simp only [SOp.opds] at one <;> simp only [aop] <;>
    first
      | rfl
      | (rw [one _ (by simp)]; done)
      | (rw [one _ (List.mem_cons_self ..), one _ (by simp)]; done)
      | (simp only [List.mem_cons, List.not_mem_nil, or_false, forall_eq_or_imp, forall_eq] at one
         simp only [one]; done)
      | skip
  case build zero parts =>
    have : evParts T parts = evParts T' parts := List.map_congr_left fun p hp => by rw [one _ (List.mem_map.2 ⟨p, hp, rfl⟩)]
    rw [this]
  case bslice fz s sz len zero parts =>
    have : evParts T parts = evParts T' parts := List.map_congr_left fun p hp => by rw [one _ (List.mem_map.2 ⟨p, hp, rfl⟩)]
    rw [this]
  case mkfn f xs ys =>
    have e1 : evs T xs = evs T' xs := List.map_congr_left fun p hp => one _ (by simp [hp])
    have e2 : evs T ys = evs T' ys := List.map_congr_left fun p hp => one _ (by simp [hp])
    rw [e1, e2]
  case slice sz x l hh m =>
    have e1 : evo T l = evo T' l := by cases l <;> simp [evo]; exact one _ (by simp)
    have e2 : evo T hh = evo T' hh := by cases hh <;> simp [evo]; exact one _ (by simp)
    have e3 : evo T m = evo T' m := by cases m <;> simp [evo]; exact one _ (by simp)
    rw [one x (by simp), e1, e2, e3]
  case maxmin mn xs =>
    have e1 : evs T xs = evs T' xs := List.map_congr_left fun p hp => one _ hp
    rw [e1]
  case ext k f xs =>
    have e1 : evs T xs = evs T' xs := List.map_congr_left fun p hp => one _ hp
    rw [e1]
  case call m x args =>
    have e1 : evs T args = evs T' args := List.map_congr_left fun p hp => one _ (by simp [hp])
    rw [one x (by simp), e1]
structure SOper where
  dst : Option Nat
  op : SOp
  after : List Nat
  guard : Option (Nat × Bool)
structure FP where
  all : Bool
  R : List Nat
  W : List Nat
def fpOf (r : List Nat × List Nat) : FP := ⟨false, r.1, r.2⟩
def StepX (P : Program) (i : Nat) (s : SOp) (T : Tmps) (h : Heap) (v : AV) (h1 : Heap) (fp : FP) : Prop :=
  ∃ out h2, (aop i T s).run h = some (out, h2) ∧
    match out with
    | .val u => v = u ∧ h1 = h2 ∧ fp = fpOf ((aop i T s).fp h)
    | .call .pure f args => PSpec P f args v ∧ h1 = h2 ∧ fp = fpOf ((aop i T s).fp h)
    | .call .borrow f args => PSpec P f args v ∧ flatV v = true ∧ h1 = h2 ∧ fp = fpOf ((aop i T s).fp h)
    | .call .heap f args => HSpec P f args h2 v h1 ∧ fp = ⟨true, [], []⟩
def wantedA (x : AV) (want : Bool) : Option Bool :=
  match x with
  | .bool b => some (b == want)
  | .tup [] => some false
  | _ => none
def StepV (P : Program) (i : Nat) (s : SOper) (T : Tmps) (h : Heap) (v : AV) (h1 : Heap) (fp : FP) : Prop :=
  match s.guard with
  | none => StepX P i s.op T h v h1 fp
  | some (g, want) => ∃ b, wantedA (lk T g) want = some b ∧ if b = true then StepX P i s.op T h v h1 fp else (v = .tup [] ∧ h1 = h ∧ fp = ⟨false, [], []⟩)
structure St where
  T : Tmps
  h : Heap
def SEq (A B : St) : Prop := (∀ i, lk A.T i = lk B.T i) ∧ ∀ b, A.h.get b = B.h.get b
theorem SEq.refl (A : St) : SEq A A := ⟨fun _ => rfl, fun _ => rfl⟩
theorem SEq.symm {A B : St} (h : SEq A B) : SEq B A := ⟨fun i => (h.1 i).symm, fun b => (h.2 b).symm⟩
theorem SEq.trans {A B C : St} (h : SEq A B) (k : SEq B C) : SEq A C := ⟨fun i => (h.1 i).trans (k.1 i), fun b => (h.2 b).trans (k.2 b)⟩
theorem Live_congr {h h' : Heap} (e : ∀ b, h.get b = h'.get b) {b g : Nat} : Live h b g ↔ Live h' b g := by
  unfold Live; rw [e b]
theorem HRel_congr {c : Ctx} {w : World} {h h' : Heap} (e : ∀ b, h.get b = h'.get b) (H : HRel c h w) : HRel c h' w :=
  ⟨fun b hb => H.fresh b (by rw [e b]; exact hb), fun b x hx => H.later b x (by rw [e b]; exact hx), fun b x hx => H.blk b x (by rw [e b]; exact hx),
    fun b g b' g' cb base base' l l' => H.inj b g b' g' cb base base' ((Live_congr e).2 l) ((Live_congr e).2 l'), H.disj, H.inF, H.inO⟩
theorem HSpec_congr {f : Nat} {args : List AV} {h h2 h1 : Heap} {v : AV} (e : ∀ b, h.get b = h2.get b) (H : HSpec P f args h v h1) : HSpec P f args h2 v h1 :=
  ⟨H.1, fun c w cargs hr ha => H.2 c w cargs (HRel_congr (fun b => (e b).symm) hr) ha⟩
def SOper.reads (s : SOper) : List Nat := slotsOf s.op.opds ++ (match s.guard with | some (g, _) => [g] | none => [])
theorem aCall_fp {m : CallM} {x : AV} {args : List AV} {h : Heap} {f : Nat} {asx : List AV} {h2 : Heap} (hm : (aCall m x args).run h = some (.call .heap f asx, h2)) : h2 = h ∧ (∀ h', (aCall m x args).run h' = some (.call .heap f asx, h')) := by
  cases x <;> simp only [aCall] at hm <;> try (cases hm; done)
  cases m with
  | heap =>
    simp only [HM.run, Option.some.injEq, Prod.mk.injEq] at hm
    obtain ⟨h1, rfl⟩ := hm
    exact ⟨rfl, fun h' => by simp only [aCall, HM.run, h1]⟩
  | pure =>
    simp only [HM.run, Option.some.injEq, Prod.mk.injEq] at hm
    obtain ⟨h1, rfl⟩ := hm
    cases h1
  | borrow =>
    simp only at hm
    obtain ⟨as', h3, k1, k2⟩ := run_bind hm
    simp only [HM.run, Option.some.injEq, Prod.mk.injEq] at k2
    obtain ⟨h1, rfl⟩ := k2
    cases h1
theorem aop_heap {i : Nat} {T : Tmps} {s : SOp} {h : Heap} {f : Nat} {asx : List AV} {h2 : Heap} (hm : (aop i T s).run h = some (.call .heap f asx, h2)) : h2 = h ∧ (∀ h', (aop i T s).run h' = some (.call .heap f asx, h')) := by
  have lf : ∀ (o : Option AV), (lift o).run h ≠ some (AOut.call .heap f asx, h2) := by
    intro o e
    obtain ⟨v, _, k⟩ := run_lift e
    cases k
  have hf : ∀ (m : HM AV), (hval m).run h ≠ some (AOut.call .heap f asx, h2) := by
    intro m e
    obtain ⟨v, h1, _, k⟩ := run_hval e
    cases k
  cases s <;> simp only [aop] at hm ⊢ <;> first
    | exact absurd hm (lf _)
    | exact absurd hm (hf _)
    | (simp only [HM.run, Option.some.injEq, Prod.mk.injEq, reduceCtorEq, false_and] at hm; done)
    | exact aCall_fp hm
theorem StepX.local {i : Nat} {s : SOp} {T T' : Tmps} {h h' : Heap} {v : AV} {h1 : Heap} {fp : FP} (hs : StepX P i s T h v h1 fp) (hT : ∀ j ∈ slotsOf s.opds, lk T j = lk T' j)
    (hR : fp.all = false → ∀ b ∈ fp.R, h.get b = h'.get b) (hA : fp.all = true → ∀ b, h.get b = h'.get b) :
    ∃ h1', StepX P i s T' h' v h1' fp ∧ (fp.all = false → (∀ b ∈ fp.W, h1'.get b = h1.get b) ∧ (∀ b, b ∉ fp.W → h1'.get b = h'.get b) ∧ ∀ b, b ∉ fp.W → h1.get b = h.get b) ∧ (fp.all = true → h1' = h1) := by
  obtain ⟨out, h2, hm, hh⟩ := hs
  have hop := aop_congr (i := i) (s := s) hT
  have gen : fp = fpOf ((aop i T s).fp h) → (∀ b ∈ ((aop i T s).fp h).1, h.get b = h'.get b) → ∃ h2', (aop i T' s).run h' = some (out, h2') ∧ fpOf ((aop i T' s).fp h') = fp ∧
      (∀ b ∈ fp.W, h2'.get b = h2.get b) ∧ (∀ b, b ∉ fp.W → h2'.get b = h'.get b) ∧ ∀ b, b ∉ fp.W → h2.get b = h.get b := by
    intro e hag
    obtain ⟨h2', k1, k2, k3, k4, k5⟩ := (aop i T s).local h h' out h2 hm hag
    rw [hop] at k1 k2
    refine ⟨h2', k1, ?_, ?_, ?_, ?_⟩
    · rw [k2, e, hop]
    · rw [e]; exact k3
    · rw [e]; exact k4
    · rw [e]; exact k5
  match out, hm, hh with
  | .val u, hm, hh =>
    obtain ⟨rfl, rfl, e⟩ := hh
    obtain ⟨h2', k1, k2, k3, k4, k5⟩ := gen e (by have := hR (by rw [e]; rfl); rw [e] at this; exact this)
    exact ⟨h2', ⟨_, h2', k1, rfl, rfl, k2.symm⟩, fun _ => ⟨k3, k4, k5⟩, fun ha => by rw [e] at ha; cases ha⟩
  | .call .pure f args, hm, hh =>
    obtain ⟨g1, rfl, e⟩ := hh
    obtain ⟨h2', k1, k2, k3, k4, k5⟩ := gen e (by have := hR (by rw [e]; rfl); rw [e] at this; exact this)
    exact ⟨h2', ⟨_, h2', k1, g1, rfl, k2.symm⟩, fun _ => ⟨k3, k4, k5⟩, fun ha => by rw [e] at ha; cases ha⟩
  | .call .borrow f args, hm, hh =>
    obtain ⟨g1, g2, rfl, e⟩ := hh
    obtain ⟨h2', k1, k2, k3, k4, k5⟩ := gen e (by have := hR (by rw [e]; rfl); rw [e] at this; exact this)
    exact ⟨h2', ⟨_, h2', k1, g1, g2, rfl, k2.symm⟩, fun _ => ⟨k3, k4, k5⟩, fun ha => by rw [e] at ha; cases ha⟩
  | .call .heap f args, hm, hh =>
    obtain ⟨g1, e⟩ := hh
    obtain ⟨rfl, hall⟩ := aop_heap hm
    have hag := hA (by rw [e])
    refine ⟨h1, ⟨.call .heap f args, h', ?_, HSpec_congr hag g1, e⟩, ⟨fun ha => (by rw [e] at ha; cases ha), fun _ => rfl⟩⟩
    rw [← hop]; exact hall h'
theorem StepV.local {i : Nat} {s : SOper} {T T' : Tmps} {h h' : Heap} {v : AV} {h1 : Heap} {fp : FP} (hs : StepV P i s T h v h1 fp) (hT : ∀ j ∈ s.reads, lk T j = lk T' j)
    (hR : fp.all = false → ∀ b ∈ fp.R, h.get b = h'.get b) (hA : fp.all = true → ∀ b, h.get b = h'.get b) :
    ∃ h1', StepV P i s T' h' v h1' fp ∧ (fp.all = false → (∀ b ∈ fp.W, h1'.get b = h1.get b) ∧ (∀ b, b ∉ fp.W → h1'.get b = h'.get b) ∧ ∀ b, b ∉ fp.W → h1.get b = h.get b) ∧ (fp.all = true → h1' = h1) := by
  unfold StepV at hs ⊢
  cases hg : s.guard with
  | none =>
    rw [hg] at hs
    exact StepX.local hs (fun j hj => hT j (by simp [SOper.reads, hj])) hR hA
  | some p =>
    obtain ⟨g, want⟩ := p
    rw [hg] at hs
    simp only at hs ⊢
    obtain ⟨b, hb, hs⟩ := hs
    have hb' : wantedA (lk T' g) want = some b := by rw [← hT g (by simp [SOper.reads, hg])]; exact hb
    split at hs
    · rename_i e
      obtain ⟨h1', k1, k2⟩ := StepX.local hs (fun j hj => hT j (by simp [SOper.reads, hj])) hR hA
      exact ⟨h1', ⟨b, hb', by rw [if_pos e]; exact k1⟩, k2⟩
    · rename_i e
      obtain ⟨rfl, rfl, rfl⟩ := hs
      exact ⟨h', ⟨b, hb', by rw [if_neg e]; exact ⟨rfl, rfl, rfl⟩⟩, fun _ => ⟨by simp, fun _ _ => rfl, fun _ _ => rfl⟩, fun ha => by cases ha⟩
def disj (xs ys : List Nat) : Bool := xs.all fun x => !ys.contains x
def FP.apart (a b : FP) : Bool :=
  match a.all, b.all with
  | true, true => false
  | true, false => b.R.isEmpty && b.W.isEmpty
  | false, true => a.R.isEmpty && a.W.isEmpty
  | false, false => disj a.W b.R && disj a.W b.W && disj b.W a.R
def optIn (d : Option Nat) (xs : List Nat) : Bool :=
  match d with
  | some d => xs.contains d
  | none => false
def SOper.apart (a b : SOper) : Bool := !optIn a.dst b.reads && !optIn b.dst a.reads && !(match a.dst, b.dst with | some x, some y => x == y | _, _ => false)
theorem disj_spec {xs ys : List Nat} (hh : disj xs ys = true) {b : Nat} (h1 : b ∈ xs) (h2 : b ∈ ys) : False := by
  unfold disj at hh
  rw [List.all_eq_true] at hh
  have := hh b h1
  simp [h2] at this
theorem optIn_false {d : Option Nat} {xs : List Nat} (h : optIn d xs = false) {j : Nat} (hj : j ∈ xs) : d ≠ some j := by
  rintro rfl
  simp [optIn, hj] at h
theorem StepV.comm {i j : Nat} {s t : SOper} {A : St} {v u : AV} {hB hC : Heap} {fs ft : FP} (hs : StepV P i s A.T A.h v hB fs) (ht : StepV P j t (putD A.T s.dst v) hB u hC ft)
    (hst : s.apart t = true) (hf : fs.apart ft = true) :
    ∃ hB' hC', StepV P j t A.T A.h u hB' ft ∧ StepV P i s (putD A.T t.dst u) hB' v hC' fs ∧ SEq ⟨putD (putD A.T t.dst u) s.dst v, hC'⟩ ⟨putD (putD A.T s.dst v) t.dst u, hC⟩ := by
  simp only [SOper.apart, Bool.and_eq_true, Bool.not_eq_true'] at hst
  obtain ⟨⟨a1, a2⟩, a3⟩ := hst
  have hd : ∀ x, s.dst = some x → t.dst ≠ some x := by
    intro x h1 h2
    rw [h1, h2] at a3
    simp at a3
  have teq : ∀ x, lk (putD (putD A.T t.dst u) s.dst v) x = lk (putD (putD A.T s.dst v) t.dst u) x := by
    intro x
    simp only [lk_putD]
    by_cases e1 : s.dst = some x
    · rw [if_pos e1, if_neg (hd x e1), if_pos e1]
    · by_cases e2 : t.dst = some x
      · rw [if_neg e1, if_pos e2, if_pos e2]
      · rw [if_neg e1, if_neg e2, if_neg e2, if_neg e1]
  have ht1 : ∀ x ∈ t.reads, lk (putD A.T s.dst v) x = lk A.T x := fun x hx => by rw [lk_putD, if_neg (optIn_false a1 hx)]
  have hs1 : ∀ x ∈ s.reads, lk A.T x = lk (putD A.T t.dst u) x := fun x hx => by rw [lk_putD, if_neg (optIn_false a2 hx)]
  have sfr : fs.all = false → ∀ b, b ∉ fs.W → hB.get b = A.h.get b := by
    intro ha
    obtain ⟨_, _, k, _⟩ := StepV.local (T' := A.T) (h' := A.h) hs (fun _ _ => rfl) (fun _ _ _ => rfl) (fun _ _ => rfl)
    exact (k ha).2.2
  have tfr : ft.all = false → ∀ b, b ∉ ft.W → hC.get b = hB.get b := by
    intro ha
    obtain ⟨_, _, k, _⟩ := StepV.local (T' := putD A.T s.dst v) (h' := hB) ht (fun _ _ => rfl) (fun _ _ _ => rfl) (fun _ _ => rfl)
    exact (k ha).2.2
  unfold FP.apart at hf
  cases hsa : fs.all <;> cases hta : ft.all <;> rw [hsa, hta] at hf <;> simp only [Bool.false_eq_true] at hf
  · -- both touch but some blocks
    simp only [Bool.and_eq_true] at hf
    obtain ⟨⟨f1, f2⟩, f3⟩ := hf
    obtain ⟨hB', k1, k2, _⟩ := StepV.local (T' := A.T) (h' := A.h) ht ht1 (fun _ b hb => sfr hsa b (fun hw => disj_spec f1 hw hb)) (fun h => by rw [hta] at h; cases h)
    obtain ⟨k3, k4, _⟩ := k2 hta
    obtain ⟨hC', g1, g2, _⟩ := StepV.local (T' := putD A.T t.dst u) (h' := hB') hs hs1 (fun _ b hb => (k4 b (fun hw => disj_spec f3 hw hb)).symm) (fun h => by rw [hsa] at h; cases h)
    obtain ⟨g3, g4, _⟩ := g2 hsa
    refine ⟨hB', hC', k1, g1, teq, fun b => ?_⟩
    show hC'.get b = hC.get b
    by_cases hw : b ∈ fs.W
    · rw [g3 b hw, tfr hta b (fun h => disj_spec f2 hw h)]
    · rw [g4 b hw]
      by_cases hw2 : b ∈ ft.W
      · exact k3 b hw2
      · rw [k4 b hw2, tfr hta b hw2, sfr hsa b hw]
  · -- the second touches all: the first touches nothing
    simp only [Bool.and_eq_true, List.isEmpty_iff] at hf
    obtain ⟨f1, f2⟩ := hf
    have hBA : ∀ b, hB.get b = A.h.get b := fun b => sfr hsa b (by rw [f2]; simp)
    obtain ⟨hB', k1, _, k2⟩ := StepV.local (T' := A.T) (h' := A.h) ht ht1 (fun h => by rw [hta] at h; cases h) (fun _ b => hBA b)
    have k2 := k2 hta
    subst k2
    obtain ⟨hC', g1, g2, _⟩ := StepV.local (T' := putD A.T t.dst u) (h' := hB') hs hs1 (fun _ b hb => by rw [f1] at hb; simp at hb) (fun h => by rw [hsa] at h; cases h)
    obtain ⟨_, g4, _⟩ := g2 hsa
    exact ⟨hB', hC', k1, g1, teq, fun b => g4 b (by rw [f2]; simp)⟩
  · -- the first touches all: the second touches nothing
    simp only [Bool.and_eq_true, List.isEmpty_iff] at hf
    obtain ⟨f1, f2⟩ := hf
    have hCB : ∀ b, hC.get b = hB.get b := fun b => tfr hta b (by rw [f2]; simp)
    obtain ⟨hB', k1, k2, _⟩ := StepV.local (T' := A.T) (h' := A.h) ht ht1 (fun _ b hb => by rw [f1] at hb; simp at hb) (fun h => by rw [hta] at h; cases h)
    obtain ⟨_, k4, _⟩ := k2 hta
    have hB'A : ∀ b, A.h.get b = hB'.get b := fun b => (k4 b (by rw [f2]; simp)).symm
    obtain ⟨hC', g1, _, g2⟩ := StepV.local (T' := putD A.T t.dst u) (h' := hB') hs hs1 (fun h => by rw [hsa] at h; cases h) (fun _ b => hB'A b)
    have g2 := g2 hsa
    subst g2
    exact ⟨hB', hC', k1, g1, teq, fun b => (hCB b).symm⟩
theorem StepV.congr {i : Nat} {s : SOper} {A B : St} {v : AV} {h1 : Heap} {fp : FP} (hs : StepV P i s A.T A.h v h1 fp) (e : SEq A B) :
    ∃ h1', StepV P i s B.T B.h v h1' fp ∧ SEq ⟨putD A.T s.dst v, h1⟩ ⟨putD B.T s.dst v, h1'⟩ := by
  obtain ⟨h1', k1, k2, k3⟩ := StepV.local (T' := B.T) (h' := B.h) hs (fun j _ => e.1 j) (fun _ b _ => e.2 b) (fun _ b => e.2 b)
  refine ⟨h1', k1, fun j => ?_, fun b => ?_⟩
  · show lk (putD A.T s.dst v) j = lk (putD B.T s.dst v) j
    rw [lk_putD, lk_putD, e.1 j]
  · show h1.get b = h1'.get b
    cases ha : fp.all with
    | true => rw [k3 ha]
    | false =>
      obtain ⟨g1, g2, g3⟩ := k2 ha
      by_cases hw : b ∈ fp.W
      · exact (g1 b hw).symm
      · rw [g3 b hw, g2 b hw, e.2 b]
end Go.AM
