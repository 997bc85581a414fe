/- The abstract machine, part D: append, copy, slices of slices, addresses, numbers, comparisons: each operation of the model does what the abstract one says. -/
import Derived.Test.YteaeobmbfhaklaaAmC
set_option linter.unusedSimpArgs false
set_option linter.unusedVariables false
namespace Go.AM
variable {P : Program} {c : Ctx} {w : World} {h : Heap}

/-- A draw turns no block. -/
theorem HRel.drew (H : HRel c h w) : Evo c w c w.drew ∧ HRel c h w.drew :=
  H.grow rfl rfl rfl (Nat.le_refl _) (fun _ _ => rfl)

theorem putL_drop {C us : List Value} {base off : Nat} (hl : base + off ≤ C.length) : (putL C (base + off) us).drop base = ((C.drop base).take off ++ us) ++ (C.drop base).drop (off + us.length) := by
  unfold putL
  rw [List.append_assoc, List.drop_append, List.append_assoc]
  have h1 : List.drop base (List.take (base + off) C) = (C.drop base).take off := by
    rw [List.drop_take, show base + off - base = off by omega]
  have h2 : base - (List.take (base + off) C).length = 0 := by simp; omega
  rw [h1, h2, List.drop_zero, List.drop_drop]
  rw [show base + (off + us.length) = base + off + us.length by omega]

/-- A block that stands for nothing yet: its slice is nil. -/
theorem HRel.putNil (H : HRel c h w) {b g : Nat} (hb : b < lim) (hlater : ∀ y, g < y → c.ρ b y = none) (hat : c.ρ b g = none ∨ c.ρ b g = some .nil) :
    Evo c w (c.with b g .nil none) w ∧ HRel (c.with b g .nil none) (h.set b (.cells g [])) w := by
  have E : Evo c w (c.with b g .nil none) w := by
    refine ⟨rfl, rfl, rfl, Nat.le_refl _, fun _ C _ fr h => ⟨C, fr, h, rfl⟩, fun _ _ _ => rfl, ?_, fun _ h => h, fun _ h => .inl h, ?_⟩
    · intro x1 y p hp
      show (if x1 = b ∧ y = g then some Place.nil else c.ρ x1 y) = some p
      by_cases e1 : x1 = b ∧ y = g
      · obtain ⟨rfl, rfl⟩ := e1
        rw [if_pos ⟨rfl, rfl⟩]
        rcases hat with h1 | h1 <;> rw [h1] at hp
        · cases hp
        · exact hp
      · rw [if_neg e1]; exact hp
    · intro k hk
      rcases hk with hk | hk
      · exact .inl hk
      · cases hk
  have hO : ∀ k, (c.with b g .nil none).O k → c.O k := fun k hk => hk.elim id (fun e => by cases e)
  refine ⟨E, ?_, ?_, ?_, ?_, fun k hF hO' => H.disj k hF (hO k hO'), H.inF, fun k hk => H.inO k (hO k hk)⟩
  · intro b2 hg y
    rw [Tr.get_set h hb] at hg
    split at hg
    · cases hg
    · rename_i hne
      show (if b2 = b ∧ y = g then some Place.nil else c.ρ b2 y) = none
      rw [if_neg (fun e => hne e.1)]
      exact H.fresh b2 hg y
  · intro b2 x2 hg y hy
    rw [Tr.get_set h hb] at hg
    show (if b2 = b ∧ y = g then some Place.nil else c.ρ b2 y) = none
    split at hg
    · rename_i e1; subst e1; cases hg
      simp only [Blk.gen] at hy
      rw [if_neg (fun e => by omega)]
      exact hlater y hy
    · rename_i hne
      rw [if_neg (fun e => hne e.1)]
      exact H.later b2 x2 hg y hy
  · intro b2 x2 hg
    rw [Tr.get_set h hb] at hg
    split at hg
    · rename_i e1; subst e1; cases hg
      exact .inl ⟨ctx_with_same, rfl⟩
    · rename_i hne
      refine BRel.mono (E.ext H.disj) ?_ (H.blk b2 x2 hg)
      intro cb2 base2 hd2 hp
      exact ⟨.inl (H.owned ⟨x2, hg, rfl, hd2⟩ hp), rfl⟩
  · intro b1 g1 b2 g2 cb2 base1 base2 l1 l2 p1 p2
    obtain ⟨x1, hg1, rfl, hd1⟩ := l1
    obtain ⟨x2, hg2, rfl, hd2⟩ := l2
    rw [Tr.get_set h hb] at hg1 hg2
    simp only [Ctx.with] at p1 p2
    by_cases e1 : b1 = b
    · rw [if_pos e1] at hg1; cases hg1
      rw [if_pos ⟨e1, rfl⟩] at p1; cases p1
    · rw [if_neg e1] at hg1
      rw [if_neg (fun e => e1 e.1)] at p1
      by_cases e2 : b2 = b
      · rw [if_pos e2] at hg2; cases hg2
        rw [if_pos ⟨e2, rfl⟩] at p2; cases p2
      · rw [if_neg e2] at hg2
        rw [if_neg (fun e => e2 e.1)] at p2
        exact H.inj _ _ _ _ _ _ _ ⟨x1, hg1, rfl, hd1⟩ ⟨x2, hg2, rfl, hd2⟩ p1 p2

/-- What a source of append or copy holds. -/
structure SrcRel (P : Program) (c : Ctx) (w : World) (sz : Nat) (cy : Value) (ys : List AV) (n : Nat) (us : List Value) : Prop where
  rels : VRels c w ys us
  len : ys.length = n * sz
  lenOf : ∀ w1, (Builtin.lenOf cy).run P w1 = .ok n w1
  firstm : ∀ w1 m, m ≤ n → w1.heap = w.heap → (Builtin.firstCells sz m cy).run P w1 = .ok (us.take (m * sz)).toArray w1

theorem SrcRel.first {P : Program} {c : Ctx} {w : World} {sz : Nat} {cy : Value} {ys : List AV} {n : Nat} {us : List Value} (S : SrcRel P c w sz cy ys n us) :
    ∀ w1, w1.heap = w.heap → (Builtin.firstCells sz n cy).run P w1 = .ok us.toArray w1 := by
  intro w1 hw
  have h1 := S.firstm w1 n (Nat.le_refl _) hw
  have h2 := VRels_length S.rels
  have h3 := S.len
  rwa [List.take_of_length_le (by omega)] at h1

theorem slice_cells {b g off len sz : Nat} {cs : List AV} {cy : Value} (H : HRel c h w) (hy : VRel c w (.sl b g off len sz) cy) (hb : h.get b = some (.cells g cs)) (hl : off + len * sz ≤ cs.length) :
    ∃ us, SrcRel P c w sz cy ((cs.drop off).take (len * sz)) len us := by
  simp only [VRel] at hy
  rcases hy with ⟨hp, rfl, rfl, rfl⟩ | ⟨cb, base, o, cap, C, e, fr, hp, rfl, hlc, hC, hcap⟩
  · refine ⟨[], ⟨by simp [VRels], by simp, fun w1 => by simp [Builtin.lenOf], fun w1 m _ _ => by simp [Builtin.firstCells]⟩⟩
  · obtain ⟨C', e', fr', hO, hC', hfr, hbs, hpre⟩ := H.here hb hp
    rw [hC] at hC'; cases hC'
    by_cases h0 : len * sz = 0
    · refine ⟨[], ⟨by simp [h0, VRels], by simp [h0], fun w1 => by simp [Builtin.lenOf], fun w1 m hm _ => ?_⟩⟩
      have h0' : m * sz = 0 := by
        rcases Nat.mul_eq_zero.1 h0 with h | h
        · have : m = 0 := by omega
          simp [this]
        · simp [h]
      simp [Builtin.firstCells, h0', loadCells, loadCellsFrom]
    · have hcl := VPre_length hpre
      simp at hcl
      have hc1 : cap ≠ 0 := by rintro rfl; simp at hlc; subst hlc; simp at h0
      obtain ⟨rfl, hb2⟩ := hcap.resolve_left hc1
      refine ⟨(C.toList.drop (base + off)).take (len * sz), ⟨?_, by simp; omega, fun w1 => by simp [Builtin.lenOf], fun w1 m hm hw1 => ?_⟩⟩
      · have := VRels_take_drop hpre off (len * sz) hl
        simpa [List.drop_drop] using this
      · have hmm : m * sz ≤ len * sz := Nat.mul_le_mul_right _ hm
        have := run_loadCells_at (P := P) (w := w1) (n := m * sz) (by rw [hw1]; exact hC) (.inr (by omega) : _ ∨ base + off + m * sz ≤ C.size)
        simpa [Builtin.firstCells, List.take_take, Nat.min_eq_left hmm] using this

theorem src_sound {sz : Nat} {y : AV} {cy : Value} {k : List AV → Nat → HM AV} {r : AV × Heap} (H : HRel c h w) (hy : VRel c w y cy) (hm : (aSrc sz y k).run h = some r) :
    ∃ ys n us, SrcRel P c w sz cy ys n us ∧ (k ys n).run h = some r := by
  cases y <;> simp only [aSrc] at hm <;> try (cases hm; done)
  case sl b g off len s =>
    split at hm
    · rename_i e; subst e
      obtain ⟨cs, hb, hm⟩ := run_cells hm
      split at hm
      · rename_i hl
        obtain ⟨us, hs⟩ := slice_cells (P := P) H hy hb hl
        exact ⟨_, _, us, hs, hm⟩
      · simp [HM.run] at hm
    · simp [HM.run] at hm
  case fsl cs len s =>
    split at hm
    · rename_i e; subst e
      simp only [VRel] at hy
      rcases hy with ⟨⟨a, rfl⟩, rfl, rfl⟩ | ⟨cb, off, cap, C, e, fr, rfl, hlc, hlen, hF, hC, hpre⟩
      · refine ⟨[], 0, [], ⟨by simp [VRels], by simp, fun w1 => by simp [Builtin.lenOf], fun w1 m hm' _ => ?_⟩, hm⟩
        obtain rfl : m = 0 := by omega
        cases a <;> simp [Builtin.firstCells, loadCells, loadCellsFrom]
      · have hcl := VPre_length hpre
        simp at hcl
        refine ⟨cs, len, (C.toList.drop off).take cs.length, ⟨VPre_rels hpre, hlen, fun w1 => by simp [Builtin.lenOf], fun w1 m hm' hw1 => ?_⟩, hm⟩
        have hmm : m * s ≤ len * s := Nat.mul_le_mul_right _ hm'
        have := run_loadCells_at (P := P) (w := w1) (n := m * s) (by rw [hw1]; exact hC) (show m * s = 0 ∨ off + m * s ≤ C.size by omega)
        simpa [Builtin.firstCells, hlen, List.take_take, Nat.min_eq_left hmm] using this
    · simp [HM.run] at hm
  case nilsl =>
    simp only [VRel] at hy
    subst hy
    exact ⟨[], 0, [], ⟨by simp [VRels], by simp, fun w1 => by simp [Builtin.lenOf], fun w1 m _ _ => by simp [Builtin.firstCells]⟩, hm⟩
  case esl =>
    simp only [VRel] at hy
    obtain ⟨a, rfl⟩ := hy
    refine ⟨[], 0, [], ⟨by simp [VRels], by simp, fun w1 => by simp [Builtin.lenOf], fun w1 m hm' _ => ?_⟩, hm⟩
    obtain rfl : m = 0 := by omega
    cases a <;> simp [Builtin.firstCells, loadCells, loadCellsFrom]
  case str s =>
    split at hm
    · rename_i e; subst e
      simp only [VRel] at hy
      subst hy
      refine ⟨_, _, s.map fun b => Value.int .u8 b.toNat, ⟨?_, by simp, fun w1 => by simp [Builtin.lenOf, ByteArray.size], fun w1 m hm' _ => ?_⟩, hm⟩
      · have : ∀ l : List UInt8, VRels c w (l.map fun b => AV.int .u8 b.toNat) (l.map fun b => Value.int .u8 b.toNat) := by
          intro l
          induction l with
          | nil => simp [VRels]
          | cons a l ih => simp only [List.map_cons, VRels]; exact ⟨_, _, rfl, by simp [VRel], ih⟩
        exact this s
      · simp only [Builtin.firstCells, Sem.run_pure]
        congr 1
        apply Array.ext'
        simp [ByteArray.extract, ByteArray.copySlice]
    · simp [HM.run] at hm

theorem nextcap_le {need old bytes : Nat} (hlt : old < need) (hb : need * bytes ≤ 1099511627776) : Builtin.nextslicecap need old * bytes ≤ 281474976710656 := by
  have := nextslicecap_le hlt
  have h2 : Builtin.nextslicecap need old * bytes ≤ 2 * need * bytes := Nat.mul_le_mul_right _ this
  have : 2 * need * bytes = 2 * (need * bytes) := by rw [Nat.mul_assoc]
  omega

/-- append to a slice without the room. -/
theorem run_append_grows {t t2 ty e : TypeId} {i : TypeInfo} {z : Value} {d2 : TypeDesc} {n dlen dcap : Nat} {base : Option Addr} {cy : Value} {olds us : List Value} (ht : P.underlying t = some (.slice e)) (ht2 : P.underlying t2 = some d2) (hd2 : ∀ k, d2 ≠ .int k)
    (hi : P.info? e = some i) (hz : i.zero = some z)
    (hlen : ∀ w1, (Builtin.lenOf cy).run P w1 = .ok n w1) (hfirst : ∀ w1, w1.heap = w.heap → (Builtin.firstCells i.size n cy).run P w1 = .ok us.toArray w1)
    (hold : ∀ w1, w1.heap = w.heap → (Builtin.firstCells i.size dlen (.slice base dlen dcap)).run P w1 = .ok olds.toArray w1)
    (hg : dcap < dlen + n) (hb : (dlen + n) * i.bytes ≤ 1099511627776) (h63 : dlen + n ≤ 9223372036854775807) :
    (Builtin.append_ #[t, t2] ty #[.slice base dlen dcap, cy]).run P w =
      .ok (.slice (some ⟨w.heap.size, 0, none⟩) (dlen + n) (grownCap w (dlen + n) dcap e))
        (w.drew.alloc (.cells (olds ++ us ++ (Builtin.zeroCells z.cells (grownCap w (dlen + n) dcap e - (dlen + n))).toList).toArray e)) := by
  have hn : ¬ (dlen + n ≤ dcap) := by omega
  have h63' : ¬ (9223372036854775807 < ((dlen : Int) + (n : Int))) := by omega
  have h48' : ¬ (281474976710656 < Builtin.nextslicecap (dlen + n) dcap * i.bytes) := by
    have := nextcap_le hg hb
    omega
  have hf := hfirst w.drew rfl
  have hfo := hold w.drew rfl
  have hm : (d2 matches .int _) = false := by cases d2 <;> first | rfl | exact absurd rfl (hd2 _)
  simp only [Builtin.append_, Array.getElem?_toList, List.getElem?_toArray, List.getElem?_cons_zero, List.getElem?_cons_succ, Sem.run_bind, run_underlying ht, run_underlying ht2, Result.andThen_ok, run_sizeOf hi, Sem.run_pure, hm]
  simp [typeInfo, zeroValue, hi, hz, hlen, hn, h63', h48', Question.forced, hf, hfo, newRow, grownCap]
  congr 2
  apply Array.ext'
  simp

theorem grown_le (w : World) {need old : Nat} (e : TypeId) : need ≤ grownCap w need old e := by
  unfold grownCap
  exact Nat.le_add_right _ _

/-- append to a slice that has the room. -/
theorem run_append_room {t t2 ty e : TypeId} {i : TypeInfo} {d2 : TypeDesc} {n dlen dcap : Nat} {base : Option Addr} {cy : Value} {us : List Value} (ht : P.underlying t = some (.slice e)) (ht2 : P.underlying t2 = some d2) (hd2 : ∀ k, d2 ≠ .int k)
    (hi : P.info? e = some i)
    (hlen : ∀ w1, (Builtin.lenOf cy).run P w1 = .ok n w1) (hfirst : (Builtin.firstCells i.size n cy).run P w = .ok us.toArray w)
    (hg : dlen + n ≤ dcap) :
    (Builtin.append_ #[t, t2] ty #[.slice base dlen dcap, cy]).run P w = (match base with
      | some a => ((storeCells (a.add (dlen * i.size)) us).run P w).andThen fun _ w' => .ok (.slice base (dlen + n) dcap) w'
      | none => .ok (.slice base (dlen + n) dcap) w) := by
  have hm : (d2 matches .int _) = false := by cases d2 <;> first | rfl | exact absurd rfl (hd2 _)
  simp only [Builtin.append_, Array.getElem?_toList, List.getElem?_toArray, List.getElem?_cons_zero, List.getElem?_cons_succ, Sem.run_bind, run_underlying ht, run_underlying ht2, Result.andThen_ok, run_sizeOf hi, Sem.run_pure, hm]
  cases base <;> simp [hlen, hg, hfirst]

/-- The types of an append: the slice's, the source's, the element's. -/
structure AppT (P : Program) (t t2 e : TypeId) (sz bytes : Nat) (i : TypeInfo) (z : Value) : Prop where
  ht : P.underlying t = some (.slice e)
  ht2 : ∃ d2, P.underlying t2 = some d2 ∧ ∀ k, d2 ≠ .int k
  hi : P.info? e = some i
  hz : i.zero = some z
  hsz : i.size = sz
  hby : i.bytes = bytes
  hzs : z.cells.size = sz

theorem zeroCells_size (z : Array Value) (n : Nat) : (Builtin.zeroCells z n).size = n * z.size := by simp [Builtin.zeroCells]

/-- The world behind an append that grew. -/
theorem grew_world (H : HRel c h w) {b g : Nat} (hlim : b < lim) (hg : h.get b = none ∧ g = 0 ∨ ∃ z, h.get b = some z ∧ g = z.gen + 1) {cs : List AV} {us : List Value} {rest : List Value} {e : TypeId}
    (hr : VRels c w cs us) {len cap sz : Nat} (hlc : len ≤ cap) (hcap : cap * sz ≤ (us ++ rest).length) :
    ∃ c', Evo c w c' (w.drew.alloc (.cells (us ++ rest).toArray e)) ∧ HRel c' (h.set b (.cells g cs)) (w.drew.alloc (.cells (us ++ rest).toArray e)) ∧
      VRel c' (w.drew.alloc (.cells (us ++ rest).toArray e)) (.sl b g 0 len sz) (.slice (some ⟨w.heap.size, 0, none⟩) len cap) := by
  obtain ⟨E1, H1⟩ := H.drew
  have hr1 := VRels.mono (E1.ext H.disj) _ _ hr
  obtain ⟨c', hp, E2, H2⟩ := H1.newCells hlim hg (cs := cs) (C := (us ++ rest).toArray) (e := e) (by simpa using VPre_pad hr1)
  refine ⟨c', E1.trans E2, H2, ?_⟩
  simp only [VRel]
  refine .inr ⟨_, 0, 0, cap, (us ++ rest).toArray, e, (0, 0), hp, rfl, hlc, ?_, .inr ⟨by simp, by simpa using hcap⟩⟩
  show (w.heap.push _)[w.heap.size]? = _
  simp

theorem append_sound {t t2 ty e : TypeId} {s : Site} {i sz bytes : Nat} {x y v : AV} {cx cy : Value} {ti : TypeInfo} {z : Value} {h' : Heap} (H : HRel c h w) (hx : VRel c w x cx) (hy : VRel c w y cy)
    (T : AppT P t t2 e sz bytes ti z) (hm : (aAppend s i sz bytes x y).run h = some (v, h')) : Sound P c w (Builtin.append_ #[t, t2] ty #[cx, cy]) v h' := by
  obtain ⟨ht, ⟨d2, ht2, hd2⟩, hi, hz, rfl, rfl, hzs⟩ := T
  replace hm := src_sound (P := P) H hy hm
  obtain ⟨ys, n, us, S, hm⟩ := hm
  have hul := VRels_length S.rels
  have hyl := S.len
  by_cases hcond : (slLen x + n) * ti.bytes ≤ 1099511627776 ∧ slLen x + n ≤ 1099511627776 ∧ ys.all AV.one = true
  case pos =>
    rw [if_pos hcond] at hm
    obtain ⟨hb, hb2, hone⟩ := hcond
    have hones : ∀ u ∈ us, u.oneCell' = true := by
      intro u hu
      obtain ⟨j, hj, rfl⟩ := List.mem_iff_getElem.1 hu
      obtain ⟨v', hv', hr⟩ := VRels_get j S.rels (List.getElem?_eq_getElem (by omega : j < ys.length))
      rw [List.getElem?_eq_getElem hj] at hv'; cases hv'
      have h1 : (ys[j]).one = true := by
        rw [List.all_eq_true] at hone
        exact hone _ (List.getElem_mem _)
      have h2 := VRel_cells (x := ys[j]) hr (by cases hh : ys[j] <;> simp_all [AV.one, AV.cells])
      have : (us[j]).cells = #[us[j]] ∨ ∃ a, us[j] = .agg a := by cases us[j] <;> simp [Value.cells]
      rcases this with h3 | ⟨a, h3⟩
      · exact h2.2 _ (by rw [h3]; simp)
      · rw [h3] at hr
        exfalso
        cases hh : ys[j] <;> rw [hh] at hr h1 <;> simp [AV.one] at h1 <;> simp [VRel] at hr
    -- a new block for what was nil or has no room
    have fresh : ∀ (base : Option Addr) (hold : ∀ w1, (Builtin.firstCells ti.size 0 (.slice base 0 0)).run P w1 = .ok #[] w1) (b g : Nat), b < lim → (h.get b = none ∧ g = 0 ∨ ∃ z, h.get b = some z ∧ g = z.gen + 1) → 0 < n → n * ti.bytes ≤ 1099511627776 → n ≤ 9223372036854775807 →
        Sound P c w (Builtin.append_ #[t, t2] ty #[.slice base 0 0, cy]) (.sl b g 0 n ti.size) (h.set b (.cells g ys)) := by
      intro base hold b g hlim hg hpos hbn h63
      have hr := run_append_grows (P := P) (w := w) (ty := ty) (t := t) (t2 := t2) (dlen := 0) (dcap := 0) (base := base) (cy := cy) (olds := []) (us := us) ht ht2 hd2 hi hz S.lenOf S.first (fun w1 _ => hold w1) (by omega) (by simpa using hbn) (by simpa using h63)
      simp only [Nat.zero_add, List.nil_append] at hr
      have hgl := grown_le w (need := n) (old := 0) e
      obtain ⟨c', E', H', V'⟩ := grew_world H hlim hg (e := e) (rest := (Builtin.zeroCells z.cells (grownCap w n 0 e - n)).toList) S.rels (len := n) (cap := grownCap w n 0 e) (sz := ti.size) hgl (by
        have hz1 := zeroCells_size z.cells (grownCap w n 0 e - n)
        rw [hzs] at hz1
        simp only [List.length_append, Array.length_toList, hz1, ← hul, hyl]
        rw [← Nat.add_mul]
        have : n + (grownCap w n 0 e - n) = grownCap w n 0 e := by omega
        rw [this]; exact Nat.le_refl _)
      exact ⟨_, c', _, hr, E', H', V'⟩
    cases x <;> simp only at hm <;> try (simp [HM.run] at hm; done)
    case nilsl =>
      simp only [VRel] at hx
      subst hx
      cases n with
      | zero =>
        simp only [HM.run, Option.some.injEq, Prod.mk.injEq] at hm
        obtain ⟨rfl, rfl⟩ := hm
        exact .here H (by simpa using run_append_room (P := P) (ty := ty) (base := none) (dlen := 0) (dcap := 0) ht ht2 hd2 hi S.lenOf (S.first w rfl) (by omega)) (by simp [VRel])
      | succ n =>
        obtain ⟨b, g, hlim, hg, hm⟩ := run_new hm
        simp only [HM.run, Option.some.injEq, Prod.mk.injEq] at hm
        obtain ⟨rfl, rfl⟩ := hm
        simp only [slLen, Nat.zero_add] at hb hb2
        exact fresh none (fun w1 => by simp [Builtin.firstCells]) b g hlim hg (by omega) hb (by omega)
    case esl =>
      simp only [VRel] at hx
      obtain ⟨base, rfl⟩ := hx
      have hold : ∀ w1, (Builtin.firstCells ti.size 0 (.slice base 0 0)).run P w1 = .ok #[] w1 := by
        intro w1; cases base <;> simp [Builtin.firstCells, loadCells, loadCellsFrom]
      cases n with
      | zero =>
        simp only [HM.run, Option.some.injEq, Prod.mk.injEq] at hm
        obtain ⟨rfl, rfl⟩ := hm
        have hus : us = [] := by cases us; rfl; simp at hul; omega
        have := run_append_room (P := P) (ty := ty) (base := base) (dlen := 0) (dcap := 0) ht ht2 hd2 hi S.lenOf (S.first w rfl) (by omega)
        rw [hus] at this
        refine .here H (cv := .slice base 0 0) ?_ (by simp [VRel])
        rw [this]
        cases base <;> simp [storeCells]
      | succ n =>
        obtain ⟨b, g, hlim, hg, hm⟩ := run_new hm
        simp only [HM.run, Option.some.injEq, Prod.mk.injEq] at hm
        obtain ⟨rfl, rfl⟩ := hm
        simp only [slLen, Nat.zero_add] at hb hb2
        exact fresh base hold b g hlim hg (by omega) hb (by omega)
    case fsl cs len s' =>
      cases n with
      | zero =>
        simp only [HM.run, Option.some.injEq, Prod.mk.injEq] at hm
        obtain ⟨rfl, rfl⟩ := hm
        have hus : us = [] := by cases us; rfl; simp at hul; omega
        have hx' := hx
        simp only [VRel] at hx
        rcases hx with ⟨⟨a, rfl⟩, _, _⟩ | ⟨cb, off, cap, C, e', fr, rfl, hlc, _⟩
        · refine .here H (cv := .slice a 0 0) ?_ hx'
          rw [run_append_room (P := P) (ty := ty) (base := a) (dlen := 0) (dcap := 0) ht ht2 hd2 hi S.lenOf (S.first w rfl) (by omega), hus]
          cases a <;> simp [storeCells]
        · refine .here H (cv := .slice (some ⟨cb, off, none⟩) len cap) ?_ hx'
          rw [run_append_room (P := P) (ty := ty) (dlen := len) (dcap := cap) ht ht2 hd2 hi S.lenOf (S.first w rfl) (by omega), hus]
          simp [storeCells]
      | succ n => simp [HM.run] at hm
    case sl b g off len s' =>
      simp only [slLen] at hb hb2
      split at hm
      · rename_i e1; subst e1
        obtain ⟨cs, hbk, hm⟩ := run_cells hm
        split at hm
        · rename_i hl
          obtain ⟨hlim, hm⟩ := run_put hm
          simp only [HM.run, Option.some.injEq, Prod.mk.injEq] at hm
          obtain ⟨rfl, rfl⟩ := hm
          have hlater : ∀ y, g < y → c.ρ b y = none := fun y hy => H.later b _ hbk y hy
          have hxx := hx
          simp only [VRel] at hx
          rcases hx with ⟨hp, rfl, rfl, rfl⟩ | ⟨cb, base, o, cap, C, e', fr, hp, rfl, hlc, hC, hcap⟩
          · -- nil so far
            have hcs : cs = [] := by
              rcases H.blk b _ hbk with ⟨_, h2⟩ | ⟨_, _, _, _, _, h1, _⟩
              · exact h2
              · rw [hp] at h1; cases h1
            subst hcs
            simp only [Nat.zero_add, Nat.zero_mul, List.drop_nil, List.take_nil, List.nil_append]
            by_cases hn : n = 0
            · subst hn
              have hys : ys = [] := by cases ys; rfl; simp at hyl
              have hus : us = [] := by cases us; rfl; simp [hys] at hul
              subst hys
              obtain ⟨E, H'⟩ := H.putNil (b := b) (g := g + 1) hlim (fun y hy => hlater y (by omega)) (.inl (hlater _ (by omega)))
              refine ⟨.slice none 0 0, _, w, ?_, E, H', ?_⟩
              · rw [run_append_room (P := P) (ty := ty) (base := none) (dlen := 0) (dcap := 0) ht ht2 hd2 hi S.lenOf (S.first w rfl) (by omega)]
              · simp only [VRel]; exact .inl ⟨ctx_with_same, by simp⟩
            · exact fresh none (fun w1 => by simp [Builtin.firstCells]) b (g + 1) hlim (.inr ⟨_, hbk, rfl⟩) (by omega) (by simpa using hb) (by omega)
          · obtain ⟨C', e2, fr', hO, hC', hfr, hbs, hpre⟩ := H.here hbk hp
            rw [hC] at hC'; cases hC'
            have hlt := lt_of_heap hC
            have hcl := VPre_length hpre
            simp at hcl
            have htake := VRels_take_drop hpre off (len * ti.size) hl
            rw [List.drop_drop] at htake
            by_cases hroom : len + n ≤ cap
            · -- in place
              have hrun := run_append_room (P := P) (w := w) (ty := ty) (base := some ⟨cb, o, none⟩) (dlen := len) (dcap := cap) ht ht2 hd2 hi S.lenOf (S.first w rfl) hroom
              simp only [add_at] at hrun
              by_cases hc0 : cap = 0
              · have hl0 : len = 0 := by omega
                have hn0 : n = 0 := by omega
                subst hl0; subst hn0; subst hc0
                have hys : ys = [] := by cases ys; rfl; simp at hyl
                have hus : us = [] := by cases us; rfl; simp [hys] at hul
                subst hys; subst hus
                simp only [Nat.zero_mul, List.take_zero, List.nil_append, storeCells, Sem.run_pure, Result.andThen_ok] at hrun ⊢
                have := H.put (b := b) (cb := cb) (base := base) (x := .cells (g + 1) []) (w' := w) hlim (fun y hy => hlater y (by simp only [Blk.gen] at hy; omega)) (.inl (hlater _ (by simp [Blk.gen]))) (.inr ⟨g, base, ⟨_, hbk, rfl, fun k => by simp⟩, hp⟩) rfl rfl rfl (Nat.le_refl _) hlt (fun _ _ _ => rfl) (fun C2 e2 fr2 h2 => ⟨C2, fr2, h2, rfl⟩)
                  (fun E => .inr ⟨cb, base, C, e', fr, ctx_with_same, .inr rfl, hC, hfr, hbs, by simp [VPre]⟩)
                refine ⟨_, _, _, hrun, this.1, this.2, ?_⟩
                simp only [VRel]
                exact .inr ⟨cb, base, o, 0, C, e', fr, ctx_with_same, rfl, by omega, hC, .inl rfl⟩
              · obtain ⟨rfl, hbnd⟩ := hcap.resolve_left hc0
                have hmul : (len + n) * ti.size ≤ cap * ti.size := Nat.mul_le_mul_right _ hroom
                rw [Nat.add_mul] at hmul
                have hst := run_storeCells (P := P) (cb := cb) (o := base + off + len * ti.size) us 0 w C hC hfr (by omega) hones
                simp only [Nat.add_zero] at hst
                rw [hst] at hrun
                simp only [Result.andThen_ok] at hrun
                have hpl : (putL C.toList (base + off + len * ti.size) us).length = C.size := by
                  rw [putL_length (by simp; omega)]; simp
                have := H.put (b := b) (cb := cb) (base := base + off) (x := .cells (g + 1) (List.take (len * ti.size) (List.drop off cs) ++ ys)) (w' := upd w cb (.cells (putL C.toList (base + off + len * ti.size) us).toArray e' fr)) hlim
                  (fun y hy => hlater y (by simp only [Blk.gen] at hy; omega)) (.inl (hlater _ (by simp [Blk.gen]))) (.inr ⟨g, base, ⟨_, hbk, rfl, fun k => by simp⟩, hp⟩) rfl rfl rfl (by simp [upd]) (by simpa [upd] using hlt) (fun k _ hne => upd_other hne)
                  (fun C2 e2 fr2 h2 => by
                    rw [hC] at h2; cases h2
                    exact ⟨_, fr, upd_get hlt, by simpa using hpl⟩)
                  (fun E => .inr ⟨cb, base + off, _, e', fr, ctx_with_same, .inr rfl, upd_get hlt, by simpa [hpl] using hfr, by simp [hpl]; omega, by
                    have e5 := putL_drop (C := C.toList) (us := us) (base := base + off) (off := len * ti.size) (by simp; omega)
                    rw [List.toList_toArray, e5]
                    exact VPre_pad (VRels_append (VRels.mono (E.ext H.disj) _ _ htake) (VRels.mono (E.ext H.disj) _ _ S.rels))⟩)
                refine ⟨_, _, _, hrun, this.1, this.2, ?_⟩
                simp only [VRel]
                exact .inr ⟨cb, base + off, base + off, cap, _, e', fr, ctx_with_same, rfl, hroom, upd_get hlt, .inr ⟨by omega, by simp [hpl]; omega⟩⟩
            · -- it grows
              obtain ⟨olds, So⟩ := slice_cells (P := P) H hxx hbk hl
              have hrun := run_append_grows (P := P) (w := w) (ty := ty) (t := t) (t2 := t2) (dlen := len) (dcap := cap) (base := some ⟨cb, o, none⟩) (cy := cy) (olds := olds) (us := us) ht ht2 hd2 hi hz S.lenOf S.first So.first (by omega) hb (by omega)
              have hgl := grown_le w (need := len + n) (old := cap) e
              have hol := VRels_length So.rels
              have hol2 := So.len
              obtain ⟨c', E', H', V'⟩ := grew_world H hlim (.inr ⟨_, hbk, rfl⟩ : h.get b = none ∧ g + 1 = 0 ∨ ∃ z, h.get b = some z ∧ g + 1 = z.gen + 1) (e := e) (rest := (Builtin.zeroCells z.cells (grownCap w (len + n) cap e - (len + n))).toList) (VRels_append So.rels S.rels) (len := len + n) (cap := grownCap w (len + n) cap e) (sz := ti.size) hgl (by
                have hz1 := zeroCells_size z.cells (grownCap w (len + n) cap e - (len + n))
                rw [hzs] at hz1
                simp only [List.length_append, Array.length_toList, hz1, ← hul, hyl, ← hol, hol2]
                rw [← Nat.add_mul, ← Nat.add_mul]
                have : len + n + (grownCap w (len + n) cap e - (len + n)) = grownCap w (len + n) cap e := by omega
                rw [this]; exact Nat.le_refl _)
              exact ⟨_, c', _, hrun, E', H', V'⟩
        · simp [HM.run] at hm
      · simp [HM.run] at hm
  case neg => rw [if_neg hcond] at hm; simp [HM.run] at hm

end Go.AM
