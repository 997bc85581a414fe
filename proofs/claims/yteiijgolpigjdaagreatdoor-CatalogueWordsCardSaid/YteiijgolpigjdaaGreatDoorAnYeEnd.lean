/- The statement CatalogueWords: for every input the call returns true; here the frame round the walk (AnYe).
  Conditions: none of ours. -/
import Derived.Test.YteiijgolpigjdaaGreatDoorCards
import Derived.Test.YteiijgolpigjdaaGreatDoorTie
import Derived.WalkKit
import Derived.ProofKit
import Derived.OpenShut
import Derived.Carry
import Derived.Deep.DeepHandedRow
import Derived.Lib.LaidTab
import Derived.Test.YteiijgolpigjdaaGreatDoorAmW27
namespace Go.Proofs.YteiijgolpigjdaaGreatDoor.fnCatalogueWords
open Go.ChangeShapes Go.WideShapes Go.ChangeAt Go.RowKit Go.AM
set_option linter.unusedVariables false
set_option linter.unusedSimpArgs false

theorem laidOut : laidOutB Tryz.prog = true := by kernel_rfl
theorem own : ownKnob Tryz.prog.godebug = none := by kernel_rfl

set_option maxRecDepth 100000 in
theorem contract (H : Type) (enc : TypeId × Value → H) (W : World) (base : Nat) (args : Array Value) (ds gs : List (DataW H)) (before : List MemPlace)
    (hval : ∀ (j : Nat) t v, Tryz.f4.params[j]? = some t → args[j]? = some v → Value.okWide Tryz.prog W .any base t v)
    (hW : DataW.Whole enc Tryz.prog Tryz.f4.params.toList Rows.catalogueWordsSpec.vars false W args.toList ds gs before) :
    Calls Tryz.prog 4 args W fun e W' => ∃ v, e = .returned v ∧ Rows.catalogueWordsSpec.post enc Tryz.prog Tryz.f4 false true false false W args v W' := by
  have hW' := hW
  obtain ⟨p, q, hA0, hV, rfl, hfz, hnd⟩ := hW
  have hA : DataW.TrodAll enc Tryz.prog W 0 (fun _ => true) true Tryz.f4.params.toList args.toList ds p := hA0
  rw [Tryz.params4] at hA hval
  obtain ⟨v0, vs0, d0, ds0, p0, q0, hargs, rfl, rfl, h0, r0⟩ := trodAll_cons hA
  obtain ⟨v1, vs1, d1, ds1, p1, q1, rfl, rfl, rfl, h1, r1⟩ := trodAll_cons r0
  obtain ⟨v2, vs2, d2, ds2, p2, q2, rfl, rfl, rfl, h2, r2⟩ := trodAll_cons r1
  obtain ⟨rfl, rfl, rfl⟩ := trodAll_nil r2
  obtain rfl : args = #[v0, v1, v2] := by cases args; simp_all
  obtain ⟨rfl, rfl⟩ := trodVars_none hV
  have k0 := h0
  have lt0 : ∀ x ∈ p0, x.block < W.heap.size := by obtain ⟨m, hm⟩ := k0; exact DataW.trod_lt m _ _ _ hm
  obtain ⟨l0, wf0, rel0⟩ := arg_in (.int .u8) (by kernel_rfl) (hval 0 5 v0 rfl rfl) h0
  have k1 := h1
  have lt1 : ∀ x ∈ p1, x.block < W.heap.size := by obtain ⟨m, hm⟩ := k1; exact DataW.trod_lt m _ _ _ hm
  obtain ⟨l1, wf1, rel1⟩ := arg_in (.int .u8) (by kernel_rfl) (hval 1 5 v1 rfl rfl) h1
  have k2 := h2
  have lt2 : ∀ x ∈ p2, x.block < W.heap.size := by obtain ⟨m, hm⟩ := k2; exact DataW.trod_lt m _ _ _ hm
  obtain ⟨l2, wf2, rel2⟩ := arg_in (.sl (.int .u8)) (by kernel_rfl) (hval 2 61 v2 rfl rfl) h2
  try clear hA0
  simp only [List.append_nil] at hW'
  have walk := SO.claw4_in l0 l1 l2 wf0 wf1 wf2
  refine (law_of_W2 (F := inF W) SO.okg4 rfl walk (w := W) (cargs := #[v0, v1, v2]) (fun _ h => h) (by simp only [VRels]; exact ⟨_, _, rfl, rel0, _, _, rfl, rel1, _, _, rfl, rel2, rfl⟩)).mono fun e W' ⟨he, bel⟩ => ?_
  subst he
  exact ⟨_, rfl, _, _, _, [], _, [], hW', trodAll_mk1 (shut_bool Tryz.underlying4 _), (trodAll_cons_mk (Below.trod laidOut (by kernel_rfl) (of_decide_eq_true (by kernel_rfl)) k0 bel lt0) (trodAll_cons_mk (Below.trod laidOut (by kernel_rfl) (of_decide_eq_true (by kernel_rfl)) k1 bel lt1) (trodAll_cons_mk (Below.trod laidOut (by kernel_rfl) (of_decide_eq_true (by kernel_rfl)) k2 bel lt2) trodAll_mk0))), rfl, bel.frame _, fun h => by cases h⟩

noncomputable def laidWorld (os : Os) : World :=
  { World.holding Tryz.prog os ⟨#[], #[], []⟩ with heap := ((((World.holding Tryz.prog os ⟨#[], #[], []⟩).heap.modify 1 fun
      | .cells _ t frozen => .cells #[.int .u8 0, .int .u8 1, .int .u8 28, .int .u8 2, .int .u8 29, .int .u8 14, .int .u8 24, .int .u8 3, .int .u8 30, .int .u8 22, .int .u8 20, .int .u8 15, .int .u8 25, .int .u8 17, .int .u8 4, .int .u8 8, .int .u8 31, .int .u8 27, .int .u8 13, .int .u8 23, .int .u8 21, .int .u8 19, .int .u8 16, .int .u8 7, .int .u8 26, .int .u8 12, .int .u8 18, .int .u8 6, .int .u8 11, .int .u8 5, .int .u8 10, .int .u8 9] t frozen
      | o => o).modify 2 fun
      | .cells _ t frozen => .cells #[.int .u8 0, .int .u8 1, .int .u8 56, .int .u8 2, .int .u8 57, .int .u8 49, .int .u8 28, .int .u8 3, .int .u8 61, .int .u8 58, .int .u8 42, .int .u8 50, .int .u8 38, .int .u8 29, .int .u8 17, .int .u8 4, .int .u8 62, .int .u8 47, .int .u8 59, .int .u8 36, .int .u8 45, .int .u8 43, .int .u8 51, .int .u8 22, .int .u8 53, .int .u8 39, .int .u8 33, .int .u8 30, .int .u8 24, .int .u8 18, .int .u8 12, .int .u8 5, .int .u8 63, .int .u8 55, .int .u8 48, .int .u8 27, .int .u8 60, .int .u8 41, .int .u8 37, .int .u8 16, .int .u8 46, .int .u8 35, .int .u8 44, .int .u8 21, .int .u8 52, .int .u8 32, .int .u8 23, .int .u8 11, .int .u8 54, .int .u8 26, .int .u8 40, .int .u8 15, .int .u8 34, .int .u8 20, .int .u8 31, .int .u8 10, .int .u8 25, .int .u8 14, .int .u8 19, .int .u8 9, .int .u8 13, .int .u8 8, .int .u8 7, .int .u8 6] t frozen
      | o => o).modify 0 fun
      | .cells _ t frozen => .cells #[.int .u64 1, .int .u64 10, .int .u64 100, .int .u64 1000, .int .u64 10000, .int .u64 100000, .int .u64 1000000, .int .u64 10000000, .int .u64 100000000, .int .u64 1000000000, .int .u64 10000000000, .int .u64 100000000000, .int .u64 1000000000000, .int .u64 10000000000000, .int .u64 100000000000000, .int .u64 1000000000000000, .int .u64 10000000000000000, .int .u64 100000000000000000, .int .u64 1000000000000000000, .int .u64 10000000000000000000] t frozen
      | o => o) }
theorem laid_met (os : Os) : laidMet Tryz.prog Rows.catalogueWordsRow.laid ((laidWorld os).forCall (fun _ _ => 0) ⟨#[], #[.int .u8 0, .int .u8 0, .slice none 0 0], []⟩).memory :=
  laidMet_of_run' 8 (by kernel_rfl) (by kernel_rfl)
theorem reads (os : Os) {H : Type} (enc : TypeId × Value → H) : ∃ places, DataW.whole enc Tryz.prog ((laidWorld os).forCall (fun _ _ => 0) ⟨#[], #[.int .u8 0, .int .u8 0, .slice none 0 0], []⟩).memory Tryz.f4.params.toList Rows.catalogueWordsSpec.vars false #[Value.int .u8 0, Value.int .u8 0, Value.slice none 0 0].toList 8 = some ([.lit (.int .u8 0), .lit (.int .u8 0), .nil], [], places) :=
  ⟨[], by kernel_rfl⟩

set_option maxRecDepth 100000 in
theorem lifted (os : Os) (started : os.Started) (H : Type) (enc : TypeId × Value → H) (F : Stop.Interp) :
    ReturnsInHanded {} Tryz.checked os 4 .any ((OpenSpec.ofChange Rows.catalogueWordsSpec).preRow enc Tryz.prog Tryz.f4 Rows.catalogueWordsRow.domain false Rows.catalogueWordsRow.laid) (((OpenSpec.ofChange Rows.catalogueWordsSpec).at F).post enc Tryz.prog Tryz.f4 false true false false) := by
  obtain ⟨places, hx⟩ := reads os enc
  refine returnsInHanded_of_row (C := Tryz.checked) (s := OpenSpec.ofChange Rows.catalogueWordsSpec) own started (by kernel_rfl) Tryz.func4
    (witness_row_at (enc := enc) (C := Tryz.checked) false (laidWorld os) #[.int .u8 0, .int .u8 0, .slice none 0 0] rfl (by kernel_rfl) (by kernel_rfl) (by kernel_rfl)
      (OpenSpec.preRow_of_cond 8 hx (by kernel_rfl) (fun k hk => by cases hk) (by kernel_rfl) (laid_met os))) ?_
  intro W base args ds gs before hval hW _ _ _ hL _ _
  exact contract H enc W base args ds gs before hval hW

theorem k_wf : (Rows.catalogueWordsRow.wf (OpenSpec.ofChange (OpenSpec.ofChange Rows.catalogueWordsSpec).bare)) = true := by kernel_rfl
theorem k_laid : (laidOutB Tryz.pinned.checked.prog) = true := by kernel_rfl
theorem k_mr : (mapsRowed Tryz.pinned.checked.prog) = true := by kernel_rfl
theorem k_rd : (Tryz.f4.params.all (Tryz.pinned.checked.prog.readableRec ·)) = true := by kernel_rfl
theorem k_nt : (namedTie Tryz.pinned.checked.prog Rows.catalogueWordsRow.named (OpenSpec.ofChange Rows.catalogueWordsSpec).bare.vars) = true := by kernel_rfl
theorem k_s1 : (Rows.catalogueWordsRow.stops == []) = true := by kernel_rfl
theorem k_s2 : (Tryz.pinned.checked.prog.stops == []) = true := by kernel_rfl
theorem k_s3 : (Rows.catalogueWordsRow.knobs == []) = true := by kernel_rfl
theorem k_s4 : (Tryz.pinned.checked.prog.stopKnobs == []) = true := by kernel_rfl
theorem k_ip : (Rows.catalogueWordsRow.inPlace == Tryz.pinned.checked.prog.inPlace 4) = true := by kernel_rfl
theorem k_uf : (Rows.catalogueWordsRow.unfollowed == Tryz.pinned.checked.prog.unfollowed 4) = true := by kernel_rfl
theorem k_rc : (Rows.catalogueWordsRow.recurses == Tryz.pinned.checked.prog.recurses 4) = true := by kernel_rfl
theorem k_nm : (Rows.catalogueWordsRow.named == Tryz.pinned.checked.prog.varsNamed 4) = true := by kernel_rfl
theorem k_mp : (Rows.catalogueWordsRow.maps == (Tryz.f4.params.toList ++ (OpenSpec.ofChange Rows.catalogueWordsSpec).bare.plain.varTypes Tryz.pinned.checked.prog).any (Tryz.pinned.checked.prog.mapsRec ·)) = true := by kernel_rfl
theorem k_ic : (Rows.catalogueWordsRow.ifaces == (Tryz.f4.params.toList ++ (OpenSpec.ofChange Rows.catalogueWordsSpec).bare.plain.varTypes Tryz.pinned.checked.prog).any (Tryz.pinned.checked.prog.ifacesRec ·)) = true := by kernel_rfl
theorem k_mo : (Rows.catalogueWordsRow.mapsOut == Tryz.pinned.checked.prog.mapsAmong Tryz.f4.resultTypes.toList) = true := by kernel_rfl
theorem k_lp : (Rows.catalogueWordsRow.loops == (Tryz.f4.params.toList ++ (OpenSpec.ofChange Rows.catalogueWordsSpec).bare.plain.varTypes Tryz.pinned.checked.prog).any (Tryz.pinned.checked.prog.loopsFrom ·)) = true := by kernel_rfl
theorem k_wk : (Rows.catalogueWordsRow.wideKeys == (Tryz.f4.params.toList ++ (OpenSpec.ofChange Rows.catalogueWordsSpec).bare.plain.varTypes Tryz.pinned.checked.prog ++ Tryz.f4.resultTypes.toList).any (Tryz.pinned.checked.prog.wideKeysFrom ·)) = true := by kernel_rfl
theorem k_vr : ((OpenSpec.ofChange Rows.catalogueWordsSpec).bare.vars.all (Tryz.pinned.checked.prog.varReadable ·)) = true := by kernel_rfl
theorem k_rt : (Tryz.f4.resultTypes.all (fun t => Tryz.pinned.checked.prog.readableRec t && decide (t < Tryz.pinned.checked.prog.types.size))) = true := by kernel_rfl
theorem k_io : (Rows.catalogueWordsRow.ifacesOut == Tryz.f4.resultTypes.toList.any (Tryz.pinned.checked.prog.ifacesRec ·)) = true := by kernel_rfl
theorem k_lo : (Rows.catalogueWordsRow.loopsOut == Tryz.f4.resultTypes.toList.any (Tryz.pinned.checked.prog.loopsFrom ·)) = true := by kernel_rfl
theorem k_pk : (Rows.catalogueWordsRow.plainKeys == Tryz.pinned.checked.prog.plainKeys) = true := by kernel_rfl
theorem k_st : (Rows.catalogueWordsRow.shortTexts.isNone) = true := by kernel_rfl
theorem k_sh : (Tryz.pinned.checked.prog.stopsHeard) = true := by kernel_rfl
theorem k_me : (Tryz.pinned.checked.prog.mayEnter) = true := by kernel_rfl
theorem k_lf : (Rows.catalogueWordsRow.lifted == Tryz.pinned.checked.prog.liftsFinal) = true := by kernel_rfl
theorem k_mk : (Tryz.pinned.checked.prog.make == some Rows.catalogueWordsRow.make) = true := by kernel_rfl
theorem k_kd : (Rows.catalogueWordsRow.kinds == (if Rows.catalogueWordsRow.domain.isEmpty then [] else Tryz.f4.params.toList.map fun t => match Tryz.pinned.checked.prog.underlying t with | some (.int k) => some k | _ => none)) = true := by kernel_rfl
theorem k_pi : (Rows.catalogueWordsRow.pinned == Rows.catalogueWordsRow.pinnedBy) = true := by kernel_rfl
theorem k_ve : (Rows.catalogueWordsRow.veiled == (Tryz.f4.params.toList ++ (OpenSpec.ofChange Rows.catalogueWordsSpec).bare.plain.varTypes Tryz.pinned.checked.prog ++ Tryz.f4.resultTypes.toList).any (Tryz.pinned.checked.prog.veiledRec ·)) = true := by kernel_rfl
theorem k_vf : (Rows.catalogueWordsRow.veiledFits Tryz.pinned.checked.prog Tryz.f4.params.toList (Tryz.f4.params.toList ++ (OpenSpec.ofChange Rows.catalogueWordsSpec).bare.plain.varTypes Tryz.pinned.checked.prog ++ Tryz.f4.resultTypes.toList)) = true := by kernel_rfl
set_option maxRecDepth 100000 in
theorem facts : joinedFacts Tryz.pinned.checked.prog 4 Tryz.f4 (OpenSpec.ofChange Rows.catalogueWordsSpec).bare Rows.catalogueWordsRow = true := by
  unfold joinedFacts
  simp only [Bool.and_eq_true]
  exact ⟨⟨⟨⟨⟨⟨⟨⟨⟨⟨⟨⟨⟨⟨⟨⟨⟨⟨⟨⟨⟨⟨⟨⟨⟨⟨⟨⟨⟨⟨⟨k_wf, k_laid⟩, k_mr⟩, k_rd⟩, k_nt⟩, k_s1⟩, k_s2⟩, k_s3⟩, k_s4⟩, k_ip⟩, k_uf⟩, k_rc⟩, k_nm⟩, k_mp⟩, k_ic⟩, k_mo⟩, k_lp⟩, k_wk⟩, k_vr⟩, k_rt⟩, k_io⟩, k_lo⟩, k_pk⟩, k_st⟩, k_sh⟩, k_me⟩, k_lf⟩, k_mk⟩, k_kd⟩, k_pi⟩, k_ve⟩, k_vf⟩
theorem said : Rows.CatalogueWordsSaid :=
  OpenClaim.holds_of_cond 4 Tryz.f4 rfl rfl rfl rfl rfl rfl rfl ⟨rfl, rfl, rfl, rfl, rfl⟩ rfl rfl rfl rfl rfl (by kernel_rfl) Tryz.func4 facts
    (of_decide_eq_true (by kernel_rfl)) (by unfold Func.isWrapper; first | (rw [if_pos (by decide +kernel)]; kernel_rfl) | (rw [if_neg (by decide +kernel)]; exact ⟨rfl, rfl⟩))
    (fun os started H enc _ F => by rw [OpenClaim.pre_eq_preRow]; exact lifted os started H enc F)

theorem plain (f : FuncId) (fn : Func) (hf : Tryz.pinned.checked.prog.funcNamed Rows.catalogueWordsRow.func = some f) (hfn : Tryz.pinned.checked.prog.funcs[f]? = some fn) :
    Rows.catalogueWordsCard.stood.looks = Tryz.pinned.checked.prog.looks [] ∧ ∀ (j : Nat) t, fn.params[j]? = some t → Tryz.pinned.checked.prog.wantsStandIn t = false := by
  obtain rfl : f = 4 := Option.some.inj ((show Tryz.prog.funcNamed Rows.catalogueWordsRow.func = some 4 by kernel_rfl).symm.trans hf) |>.symm
  obtain rfl : fn = Tryz.f4 := (Option.some.inj (Tryz.func4.symm.trans hfn)).symm
  refine ⟨by kernel_rfl, fun j t ht => ?_⟩
  rw [Tryz.params4] at ht
  have hm := Array.mem_of_getElem? ht
  have ht : t = 5 ∨ t = 61 := by first | simpa using hm | (simp at hm; omega)
  rcases ht with rfl | rfl
  all_goals exact (show Tryz.prog.wantsStandIn _ = false by kernel_rfl)

theorem c_wf : Rows.catalogueWordsRow.wfByText (OpenSpec.ofChange Rows.catalogueWordsSpec) = true := by kernel_rfl
theorem c_main : Tryz.pinned.checked.prog.mainIs = some (Rows.catalogueWordsCard.stood.harness.1, Rows.catalogueWordsCard.stood.harness.2.toList) := by kernel_rfl
theorem c_goes : false = Rows.catalogueWordsRow.goesBy Tryz.pinned.checked.prog := by kernel_rfl
theorem card : Rows.CatalogueWordsCardSaid :=
  Claim7.holds_tied_plain_at .later [] _ _ _ _ said (fun _ h => by cases h) c_wf (fun _ h => by cases h) catalogueWords_row_tie rfl ⟨rfl, rfl⟩ c_main rfl plain c_goes
#print axioms card
end Go.Proofs.YteiijgolpigjdaaGreatDoor.fnCatalogueWords
