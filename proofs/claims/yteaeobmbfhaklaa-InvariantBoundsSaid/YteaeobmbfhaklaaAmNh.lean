/- Contracts for nets: Make. Conditions: none of ours. -/
import Derived.Test.YteaeobmbfhaklaaAmNg
namespace Go.AM.SN
open Go.Proofs
set_option maxRecDepth 100000
set_option linter.unusedSimpArgs false
set_option linter.unusedVariables false

structure Sm where
  pl : Nat
  ini : List Nat
  mv : List (List Nat)
def u8s (l : List Nat) : List AV := l.map fun n : Nat => .int .u8 (n : Int)
def smC (s : Sm) : List AV := .int .u8 s.pl :: (u8s s.ini ++ [.fsl (s.mv.flatMap u8s) s.mv.length 5])
structure SmOk (s : Sm) : Prop where
  pl : s.pl < 256
  ini : s.ini.length = 5
  inib : ∀ x ∈ s.ini, x < 256
  mv : ∀ r ∈ s.mv, r.length = 5
  mvb : ∀ r ∈ s.mv, ∀ x ∈ r, x < 256
  many : s.mv.length ≤ 9223372036854775807

theorem tm3 (n : Nat) : Int.tmod (n : Int) 3 = ((n % 3 : Nat) : Int) := rfl
theorem tm4 (n : Nat) : Int.tmod (n : Int) 4 = ((n % 4 : Nat) : Int) := rfl
theorem tm5 (n : Nat) : Int.tmod (n : Int) 5 = ((n % 5 : Nat) : Int) := rfl
theorem tm9 (n : Nat) : Int.tmod (n : Int) 9 = ((n % 9 : Nat) : Int) := rfl
theorem td3 (n : Nat) : Int.tdiv (n : Int) 3 = ((n / 3 : Nat) : Int) := rfl

theorem noRefs_u8s (l : List Nat) : noRefs (u8s l) = true := noRefs_map fun _ => rfl
theorem noRef_sm (s : Sm) : noRefs (smC s) = true := by
  simp only [smC, noRefs, noRef, noRefs_append, noRefs_u8s, Bool.true_and, Bool.and_true]
  exact noRefs_flat noRefs_u8s

def iniR (s : Sm) (p : Nat) : List Int := (List.range p).map fun q => ((s.ini.getD q 0 % 4 : Nat) : Int)
theorem iniR_len (s : Sm) (p : Nat) : (iniR s p).length = p := by simp [iniR]
theorem iniR_succ (s : Sm) (p : Nat) : iniR s (p + 1) = iniR s p ++ [((s.ini.getD p 0 % 4 : Nat) : Int)] := by simp [iniR, List.range_succ]
def arcR (row : List Nat) (f : Nat → Nat) (n : Nat) : List (Int × Int) := (List.range n).flatMap fun p => if 0 < f (row.getD p 0 % 9) then [((p : Int), ((f (row.getD p 0 % 9) : Nat) : Int))] else []
theorem arcR_succ (row : List Nat) (f : Nat → Nat) (n : Nat) : arcR row f (n + 1) = arcR row f n ++ (if 0 < f (row.getD n 0 % 9) then [((n : Int), ((f (row.getD n 0 % 9) : Nat) : Int))] else []) := by
  simp [arcR, List.range_succ]
theorem arcR_len (row : List Nat) (f : Nat → Nat) (n : Nat) : (arcR row f n).length ≤ n := by
  induction n with
  | zero => simp [arcR]
  | succ n ih => rw [arcR_succ, List.length_append]; split <;> simp <;> omega
theorem arcs_len (l : List (Int × Int)) : (l.flatMap arcC).length = l.length * 2 := by induction l with | nil => rfl | cons a l ih => simp [List.flatMap_cons, ih, arcC]; omega
theorem tns_len (l : List Tn) : (l.flatMap tnC).length = l.length * 3 := by induction l with | nil => rfl | cons a l ih => simp [List.flatMap_cons, ih, tnC]; omega
def plN (s : Sm) : Nat := 1 + s.pl % 5
def trR (s : Sm) (i : Nat) : List Tn := (List.range i).map fun (k : Nat) => ⟨(k : Int), arcR (s.mv.getD k []) (· / 3) (plN s), arcR (s.mv.getD k []) (· % 3) (plN s)⟩
theorem trR_succ (s : Sm) (i : Nat) : trR s (i + 1) = trR s i ++ [⟨(i : Int), arcR (s.mv.getD i []) (· / 3) (plN s), arcR (s.mv.getD i []) (· % 3) (plN s)⟩] := by simp [trR, List.range_succ]
theorem trR_len (s : Sm) (i : Nat) : (trR s i).length = i := by simp [trR]
def mkN (s : Sm) : Nt := ⟨iniR s (plN s), trR s (min s.mv.length 5)⟩

theorem smC_ini {s : Sm} (ho : SmOk s) {p : Nat} (hp : p < 5) : (smC s)[1 + p]? = some (.int .u8 ((s.ini.getD p 0 : Nat) : Int)) := by
  rw [Nat.add_comm, smC, List.getElem?_cons_succ, List.getElem?_append_left (by simp [u8s, ho.ini]; exact hp)]
  obtain ⟨x, hx⟩ := get_ex (l := s.ini) (i := p) (by rw [ho.ini]; exact hp)
  simp [u8s, hx, List.getD_eq_getElem?_getD]

set_option maxHeartbeats 8000000 in
theorem make (s : Sm) (ho : SmOk s) : PSpec Try.prog 13 [.agg (smC s)] (netV (mkN s)) := by
  refine PSpec.of_rn 64 ok13 rfl (by simp only [noRefs, noRef, noRef_sm]; rfl) (noRef_net _) ?_
  have hpl : s.pl % 5 < 5 := Nat.mod_lt _ (by decide)
  have hsm := noRef_sm s
  have h0 : (smC s)[0]? = some (.int .u8 s.pl) := rfl
  simp (config := { maxSteps := 1000000 }) (disch := first | omega | (simp only [List.length_map, List.length_append, List.length_cons, List.length_nil, ints_len] <;> omega)) only [s13, tm5, tm4, tm9, td3, wordsN, Int.reduceGT, wordsR, ne_eq, words, Nat.reduceAdd, Nat.reduceEqDiff, Nat.reduceBEq, ↓reduceIte, reduceCtorEq, SX.exit.injEq, if_true, if_false, Int.reduceAdd, Int.reduceSub, Int.reduceMul, Int.reduceLT, Int.reduceLE, Int.reduceEq, Int.reduceNe, Int.reduceNeg, Int.reduceToNat, Nat.reduceMul, Nat.reduceLT, Nat.reduceSub, Nat.reduceLeDiff]
  refine wS_loopX 100 (fun p : Nat => [(1, .ptr 64 0 0), (2, .ptr 65 0 0), (3, .ptr 66 0 0), (4, .int .i64 p)])
    (fun p => [(50, .cells 0 (ints (iniR s p))), (64, .cells 0 (smC s)), (65, .cells 0 [.nilsl, .nilsl]), (66, .cells 0 [.sl 50 0 0 p 1, .nilsl])])
    (fun p => p ≤ plN s) (fun p => plN s - p) 0 0 100 (fun _ : Unit => [(1, .ptr 64 0 0), (2, .ptr 65 0 0), (3, .ptr 66 0 0)]) (fun _ => [(64, .cells 0 (smC s)), (65, .cells 0 [.nilsl, .nilsl]), (66, .cells 0 [sli (iniR s (plN s)), .nilsl])]) (fun _ => True) ?_ (Nat.zero_le _) ?_ ?_
  · refine ⟨[(50, .nil), (64, .blk 64 0), (65, .blk 65 0), (66, .blk 66 0)], rfl, ?_, (by repeat (first | exact RT.nil | (refine RT.cons ?_ ?_; · (first | exact Rn.any | exact Rn.sl (Nat.zero_le _) rfl | exact Rn.ptr (Nat.zero_le _) rfl | exact Rn.map (Nat.zero_le _) rfl | exact Rn.slnil (Nat.zero_le _) rfl | (refine Rn.slot ?_ ?_; (first | rfl | (rw [Int.natCast_add]; rfl)); (first | rfl | (simp only [noRef, noRefs, noRefs_append, noRefs_ints, noRefs_lsts, noRefs_pad, noRef_arcs, noRef_tns, Bool.and_self, Bool.and_true, Bool.true_and]; done)))))))⟩
    refine RB.newnil rfl (RB.cells rfl rfl (RnL.same hsm) ?_)
    repeat' (first | exact RB.nil | (refine RnL.same ?_; first | rfl | (simp only [noRef, noRefs, noRefs_append, noRefs_ints, noRefs_lsts, noRefs_pad, noRef_arcs, noRef_tns, Bool.and_self, Bool.and_true, Bool.true_and]; done)) | exact RnL.nil | refine RnL.cons ?_ ?_ | (refine Rn.same ?_; first | rfl | (simp only [noRef, noRefs, noRefs_append, noRefs_ints, noRefs_lsts, noRefs_pad, noRef_arcs, noRef_tns, Bool.and_self, Bool.and_true, Bool.true_and]; done)) | exact Rn.sl (Nat.zero_le _) rfl | exact Rn.ptr (Nat.zero_le _) rfl | exact Rn.map (Nat.zero_le _) rfl | exact Rn.slnil (Nat.zero_le _) rfl | refine RB.newnil rfl ?_ | refine RB.cells rfl rfl ?_ ?_ | refine RB.map rfl rfl ?_ ?_)
  · intro p hp
    have hb : s.ini.getD p 0 % 4 < 4 := Nat.mod_lt _ (by decide)
    have hs := iniR_succ s p
    have hlen := iniR_len s p
    unfold plN at hp ⊢
    by_cases hlt : p < 1 + s.pl % 5
    · have hlt' : (p : Int) < 1 + ((s.pl % 5 : Nat) : Int) := by omega
      have h5 : (p : Int) < 5 := by omega
      simp (config := { maxSteps := 1000000 }) (disch := first | omega | (simp only [List.length_map, List.length_append, List.length_cons, List.length_nil, ints_len] <;> omega)) only [hlt', h5, h0, smC_ini ho, tm5, tm4, ints_len, hlen, wordsN, Int.reduceGT, wordsR, ne_eq, words, Nat.reduceAdd, Nat.reduceEqDiff, Nat.reduceBEq, ↓reduceIte, reduceCtorEq, SX.exit.injEq, if_true, if_false, Int.reduceAdd, Int.reduceSub, Int.reduceMul, Int.reduceLT, Int.reduceLE, Int.reduceEq, Int.reduceNe, Int.reduceNeg, Int.reduceToNat, Nat.reduceMul, Nat.reduceLT, Nat.reduceSub, Nat.reduceLeDiff]
      refine ⟨p + 1, by omega, by omega, ?_⟩
      refine ⟨[(50, .blk 50 1), (64, .blk 64 0), (65, .blk 65 0), (66, .blk 66 0)], rfl, ?_, (by repeat (first | exact RT.nil | (refine RT.cons ?_ ?_; · (first | exact Rn.any | exact Rn.sl (Nat.zero_le _) rfl | exact Rn.ptr (Nat.zero_le _) rfl | exact Rn.map (Nat.zero_le _) rfl | exact Rn.slnil (Nat.zero_le _) rfl | (refine Rn.slot ?_ ?_; (first | rfl | (rw [Int.natCast_add]; rfl)); (first | rfl | (simp only [noRef, noRefs, noRefs_append, noRefs_ints, noRefs_lsts, noRefs_pad, noRef_arcs, noRef_tns, Bool.and_self, Bool.and_true, Bool.true_and]; done)))))))⟩
      refine RB.cells rfl rfl (RnL.eq (by rw [hs, ints_append]; rfl) (noRefs_ints _)) (RB.cells rfl rfl (RnL.same hsm) ?_)
      repeat' (first | exact RB.nil | (refine RnL.same ?_; first | rfl | (simp only [noRef, noRefs, noRefs_append, noRefs_ints, noRefs_lsts, noRefs_pad, noRef_arcs, noRef_tns, Bool.and_self, Bool.and_true, Bool.true_and]; done)) | exact RnL.nil | refine RnL.cons ?_ ?_ | (refine Rn.same ?_; first | rfl | (simp only [noRef, noRefs, noRefs_append, noRefs_ints, noRefs_lsts, noRefs_pad, noRef_arcs, noRef_tns, Bool.and_self, Bool.and_true, Bool.true_and]; done)) | exact Rn.sl (Nat.zero_le _) rfl | exact Rn.ptr (Nat.zero_le _) rfl | exact Rn.map (Nat.zero_le _) rfl | exact Rn.slnil (Nat.zero_le _) rfl | refine RB.newnil rfl ?_ | refine RB.cells rfl rfl ?_ ?_ | refine RB.map rfl rfl ?_ ?_)
    · have hlt' : ¬ (p : Int) < 1 + ((s.pl % 5 : Nat) : Int) := by omega
      have e : p = 1 + s.pl % 5 := by omega
      simp (config := { maxSteps := 1000000 }) (disch := first | omega | (simp only [List.length_map, List.length_append, List.length_cons, List.length_nil, ints_len] <;> omega)) only [hlt', h0, tm5, wordsN, Int.reduceGT, wordsR, ne_eq, words, Nat.reduceAdd, Nat.reduceEqDiff, Nat.reduceBEq, ↓reduceIte, reduceCtorEq, SX.exit.injEq, if_true, if_false, Int.reduceAdd, Int.reduceSub, Int.reduceMul, Int.reduceLT, Int.reduceLE, Int.reduceEq, Int.reduceNe, Int.reduceNeg, Int.reduceToNat, Nat.reduceMul, Nat.reduceLT, Nat.reduceSub, Nat.reduceLeDiff]
      refine ⟨(), ?_⟩
      refine ⟨[(64, .blk 64 0), (65, .blk 65 0), (66, .blk 66 0)], rfl, ?_, (by repeat (first | exact RT.nil | (refine RT.cons ?_ ?_; · (first | exact Rn.any | exact Rn.sl (Nat.zero_le _) rfl | exact Rn.ptr (Nat.zero_le _) rfl | exact Rn.map (Nat.zero_le _) rfl | exact Rn.slnil (Nat.zero_le _) rfl | (refine Rn.slot ?_ ?_; (first | rfl | (rw [Int.natCast_add]; rfl)); (first | rfl | (simp only [noRef, noRefs, noRefs_append, noRefs_ints, noRefs_lsts, noRefs_pad, noRef_arcs, noRef_tns, Bool.and_self, Bool.and_true, Bool.true_and]; done)))))))⟩
      refine RB.cells rfl rfl (RnL.same hsm) (RB.cells rfl rfl (RnL.same rfl) (RB.cells rfl rfl (RnL.cons (Rn.fzm rfl rfl rfl ?_ ?_ (RnL.eq (by rw [e]) (noRefs_ints _))) (RnL.same rfl)) RB.nil))
      · rw [iniR_len]; exact e.symm
      · rw [ints_len, iniR_len]; omega
  rintro _ -
  simp (config := { maxSteps := 1000000 }) (disch := first | omega | (simp only [List.length_map, List.length_append, List.length_cons, List.length_nil, ints_len] <;> omega)) only [wordsN, Int.reduceGT, wordsR, ne_eq, words, Nat.reduceAdd, Nat.reduceEqDiff, Nat.reduceBEq, ↓reduceIte, reduceCtorEq, SX.exit.injEq, if_true, if_false, Int.reduceAdd, Int.reduceSub, Int.reduceMul, Int.reduceLT, Int.reduceLE, Int.reduceEq, Int.reduceNe, Int.reduceNeg, Int.reduceToNat, Nat.reduceMul, Nat.reduceLT, Nat.reduceSub, Nat.reduceLeDiff]
  refine wS_loopX 200 (fun i : Nat => [(1, .ptr 64 0 0), (2, .ptr 65 0 0), (3, .ptr 66 0 0), (5, .int .i64 i)])
    (fun i => [(51, .cells 0 ((trR s i).flatMap tnC)), (64, .cells 0 (smC s)), (65, .cells 0 [.nilsl, .nilsl]), (66, .cells 0 [sli (iniR s (plN s)), .sl 51 0 0 i 3])])
    (fun i => i ≤ min s.mv.length 5) (fun i => 5 - i) 0 2 400 (fun _ : Unit => [(2, .ptr 65 0 0), (3, .ptr 66 0 0)]) (fun _ => [(65, .cells 0 [.nilsl, .nilsl]), (66, .cells 0 [sli (mkN s).ini, tns (mkN s).tr])]) (fun _ => True) ?_ (Nat.zero_le _) ?_ ?_
  · refine ⟨[(51, .nil), (64, .blk 64 0), (65, .blk 65 0), (66, .blk 66 0)], rfl, ?_, (by repeat (first | exact RT.nil | (refine RT.cons ?_ ?_; · (first | exact Rn.any | exact Rn.sl (Nat.zero_le _) rfl | exact Rn.ptr (Nat.zero_le _) rfl | exact Rn.map (Nat.zero_le _) rfl | exact Rn.slnil (Nat.zero_le _) rfl | (refine Rn.slot ?_ ?_; (first | rfl | (rw [Int.natCast_add]; rfl)); (first | rfl | (simp only [noRef, noRefs, noRefs_append, noRefs_ints, noRefs_lsts, noRefs_pad, noRef_arcs, noRef_tns, Bool.and_self, Bool.and_true, Bool.true_and]; done)))))))⟩
    refine RB.newnil rfl (RB.cells rfl rfl (RnL.same hsm) ?_)
    repeat' (first | exact RB.nil | (refine RnL.same ?_; first | rfl | (simp only [noRef, noRefs, noRefs_append, noRefs_ints, noRefs_lsts, noRefs_pad, noRef_arcs, noRef_tns, Bool.and_self, Bool.and_true, Bool.true_and]; done)) | exact RnL.nil | refine RnL.cons ?_ ?_ | (refine Rn.same ?_; first | rfl | (simp only [noRef, noRefs, noRefs_append, noRefs_ints, noRefs_lsts, noRefs_pad, noRef_arcs, noRef_tns, Bool.and_self, Bool.and_true, Bool.true_and]; done)) | exact Rn.sl (Nat.zero_le _) rfl | exact Rn.ptr (Nat.zero_le _) rfl | exact Rn.map (Nat.zero_le _) rfl | exact Rn.slnil (Nat.zero_le _) rfl | refine RB.newnil rfl ?_ | refine RB.cells rfl rfl ?_ ?_ | refine RB.map rfl rfl ?_ ?_)
  · intro i hi
    have h6 : (smC s)[6]? = some (.fsl (s.mv.flatMap u8s) s.mv.length 5) := by
      obtain ⟨pl, ini, mv⟩ := s
      have := ho.ini
      rcases ini with _ | ⟨a0, _ | ⟨a1, _ | ⟨a2, _ | ⟨a3, _ | ⟨a4, _ | ⟨a5, l⟩⟩⟩⟩⟩⟩ <;> simp at this
      rfl
    have htr : ∀ l : List Tn, noRefs (l.flatMap tnC) = true := fun l => noRefs_flat fun t => by simp only [tnC, noRefs, noRef_arcs, Bool.and_true]; rfl
    by_cases hlt : i < s.mv.length
    · by_cases hl5 : i < 5
      · have hl5' : (i : Int) < 5 := by omega
        obtain ⟨row, hrow⟩ := get_ex hlt
        have hrl := ho.mv row (List.mem_of_getElem? hrow)
        have hrD : s.mv.getD i [] = row := by rw [List.getD_eq_getElem?_getD, hrow]; rfl
        have hd : (s.mv.flatMap u8s).drop (i * 5) = u8s row ++ (s.mv.drop (i + 1)).flatMap u8s := drop_flat' (f := u8s) (k := 5) (fun r hr => by simp [u8s, ho.mv r hr]) hrow
        simp (config := { maxSteps := 1000000 }) (disch := first | omega | (simp only [List.length_map, List.length_append, List.length_cons, List.length_nil, ints_len] <;> omega)) only [hlt, hl5', h6, wordsN, Int.reduceGT, wordsR, ne_eq, words, Nat.reduceAdd, Nat.reduceEqDiff, Nat.reduceBEq, ↓reduceIte, reduceCtorEq, SX.exit.injEq, if_true, if_false, Int.reduceAdd, Int.reduceSub, Int.reduceMul, Int.reduceLT, Int.reduceLE, Int.reduceEq, Int.reduceNe, Int.reduceNeg, Int.reduceToNat, Nat.reduceMul, Nat.reduceLT, Nat.reduceSub, Nat.reduceLeDiff]
        refine wS_loopX 300 (fun p : Nat => [(1, .ptr 64 0 0), (2, .ptr 65 0 0), (3, .ptr 66 0 0), (5, .int .i64 i), (6, .ptr 52 0 0), (7, .int .i64 p)])
          (fun p => [(51, .cells 0 ((trR s i).flatMap tnC)), (52, .cells 0 [.int .i64 i, .sl 53 0 0 (arcR row (· / 3) p).length 2, .sl 54 0 0 (arcR row (· % 3) p).length 2]), (53, .cells 0 ((arcR row (· / 3) p).flatMap arcC)), (54, .cells 0 ((arcR row (· % 3) p).flatMap arcC)), (64, .cells 0 (smC s)), (65, .cells 0 [.nilsl, .nilsl]), (66, .cells 0 [sli (iniR s (plN s)), .sl 51 0 0 i 3])])
          (fun p => p ≤ plN s) (fun p => plN s - p) 0 4 400 (fun _ : Unit => [(1, .ptr 64 0 0), (2, .ptr 65 0 0), (3, .ptr 66 0 0), (5, .int .i64 i), (6, .ptr 52 0 0)])
          (fun _ => [(51, .cells 0 ((trR s i).flatMap tnC)), (52, .cells 0 [.int .i64 i, arcs (arcR row (· / 3) (plN s)), arcs (arcR row (· % 3) (plN s))]), (64, .cells 0 (smC s)), (65, .cells 0 [.nilsl, .nilsl]), (66, .cells 0 [sli (iniR s (plN s)), .sl 51 0 0 i 3])]) (fun _ => True) ?_ (Nat.zero_le _) ?_ ?_
        · refine ⟨[(51, .blk 51 0), (52, .blk 211 0), (53, .nil), (54, .nil), (64, .blk 64 0), (65, .blk 65 0), (66, .blk 66 0)], rfl, ?_, (by repeat (first | exact RT.nil | (refine RT.cons ?_ ?_; · (first | exact Rn.any | exact Rn.sl (Nat.zero_le _) rfl | exact Rn.ptr (Nat.zero_le _) rfl | exact Rn.map (Nat.zero_le _) rfl | exact Rn.slnil (Nat.zero_le _) rfl | (refine Rn.slot ?_ ?_; (first | rfl | (rw [Int.natCast_add]; rfl)); (first | rfl | (simp only [noRef, noRefs, noRefs_append, noRefs_ints, noRefs_lsts, noRefs_pad, noRef_arcs, noRef_tns, Bool.and_self, Bool.and_true, Bool.true_and]; done)))))))⟩
          refine RB.cells rfl rfl (RnL.same (htr _)) (RB.cells rfl rfl ?_ (RB.newnil rfl (RB.newnil rfl (RB.cells rfl rfl (RnL.same hsm) ?_)))) <;> repeat' (first | exact RB.nil | (refine RnL.same ?_; first | rfl | (simp only [noRef, noRefs, noRefs_append, noRefs_ints, noRefs_lsts, noRefs_pad, noRef_arcs, noRef_tns, Bool.and_self, Bool.and_true, Bool.true_and]; done)) | exact RnL.nil | refine RnL.cons ?_ ?_ | (refine Rn.same ?_; first | rfl | (simp only [noRef, noRefs, noRefs_append, noRefs_ints, noRefs_lsts, noRefs_pad, noRef_arcs, noRef_tns, Bool.and_self, Bool.and_true, Bool.true_and]; done)) | exact Rn.sl (Nat.zero_le _) rfl | exact Rn.ptr (Nat.zero_le _) rfl | exact Rn.map (Nat.zero_le _) rfl | exact Rn.slnil (Nat.zero_le _) rfl | refine RB.newnil rfl ?_ | refine RB.cells rfl rfl ?_ ?_ | refine RB.map rfl rfl ?_ ?_)
        · intro p hp
          have hil := iniR_len s (plN s)
          have e1 := arcR_succ row (· / 3) p
          have e2 := arcR_succ row (· % 3) p
          have l1 := arcR_len row (· / 3) p
          have l2 := arcR_len row (· % 3) p
          by_cases hpl2 : p < plN s
          · have hp5 : p < 5 := by unfold plN at hpl2; omega
            have hp5' : (p : Int) < 5 := by omega
            obtain ⟨y, hy⟩ := get_ex (l := row) (i := p) (by omega)
            have hyD : row.getD p 0 = y := by rw [List.getD_eq_getElem?_getD, hy]; rfl
            rw [hyD] at e1 e2
            have f1 := arcs_len (arcR row (· / 3) p)
            have f2 := arcs_len (arcR row (· % 3) p)
            have hld : ((u8s row ++ (s.mv.drop (i + 1)).flatMap u8s).drop p).head? = some (.int .u8 (y : Int)) := by
              rw [List.head?_drop, List.getElem?_append_left (by simp [u8s]; omega)]; simp [u8s, hy]
            have b1 : y % 9 / 3 < 3 := by omega
            have b2 : y % 9 % 3 < 3 := by omega
            have b3 : y % 9 < 9 := by omega
            have nr : ∀ l, noRefs (List.flatMap arcC l) = true := fun l => noRefs_flat fun _ => rfl
            have hfin : ∀ (A B : List (Int × Int)) (T : Tmps) (h : Heap) (ga gb k : Nat), arcR row (· / 3) (p + 1) = A → arcR row (· % 3) (p + 1) = B → lk T 1 = .ptr 64 0 0 → lk T 2 = .ptr 65 0 0 → lk T 3 = .ptr 66 0 0 → lk T 5 = .int .i64 i → lk T 6 = .ptr 52 0 0 → lk T 7 = .int .i64 (p + 1 : Nat) →
                h.get 51 = some (.cells 0 ((trR s i).flatMap tnC)) → h.get 52 = some (.cells 0 [.int .i64 i, .sl 53 ga 0 A.length 2, .sl 54 gb 0 B.length 2]) → h.get 53 = some (.cells ga (A.flatMap arcC)) → h.get 54 = some (.cells gb (B.flatMap arcC)) →
                h.get 64 = some (.cells 0 (smC s)) → h.get 65 = some (.cells 0 [.nilsl, .nilsl]) → h.get 66 = some (.cells 0 [sli (iniR s (plN s)), .sl 51 0 0 i 3]) →
                ∃ p', plN s - p' < plN s - p ∧ p' ≤ plN s ∧ Rec 0 [(1, .ptr 64 0 0), (2, .ptr 65 0 0), (3, .ptr 66 0 0), (5, .int .i64 i), (6, .ptr 52 0 0), (7, .int .i64 (p' : Nat))] [(51, .cells 0 ((trR s i).flatMap tnC)), (52, .cells 0 [.int .i64 i, .sl 53 0 0 (arcR row (· / 3) p').length 2, .sl 54 0 0 (arcR row (· % 3) p').length 2]), (53, .cells 0 ((arcR row (· / 3) p').flatMap arcC)), (54, .cells 0 ((arcR row (· % 3) p').flatMap arcC)), (64, .cells 0 (smC s)), (65, .cells 0 [.nilsl, .nilsl]), (66, .cells 0 [sli (iniR s (plN s)), .sl 51 0 0 i 3])] T h := by
              rintro A B T h ga gb k rfl rfl t1 t2 t3 t5 t6 t7 g51 g52 g53 g54 g64 g65 g66
              refine ⟨p + 1, by omega, by omega, [(51, .blk 51 0), (52, .blk 52 0), (53, .blk 53 ga), (54, .blk 54 gb), (64, .blk 64 0), (65, .blk 65 0), (66, .blk 66 0)], rfl, ?_, ?_⟩
              · refine RB.cells rfl g51 (RnL.same (htr _)) (RB.cells rfl g52 ?_ (RB.cells rfl g53 (RnL.same (nr _)) (RB.cells rfl g54 (RnL.same (nr _)) (RB.cells rfl g64 (RnL.same hsm) (RB.cells rfl g65 ?_ (RB.cells rfl g66 ?_ RB.nil)))))) <;> repeat' (first | exact RB.nil | (refine RnL.same ?_; first | rfl | (simp only [noRef, noRefs, noRefs_append, noRefs_ints, noRefs_lsts, noRefs_pad, noRef_arcs, noRef_tns, Bool.and_self, Bool.and_true, Bool.true_and]; done)) | exact RnL.nil | refine RnL.cons ?_ ?_ | (refine Rn.same ?_; first | rfl | (simp only [noRef, noRefs, noRefs_append, noRefs_ints, noRefs_lsts, noRefs_pad, noRef_arcs, noRef_tns, Bool.and_self, Bool.and_true, Bool.true_and]; done)) | exact Rn.sl (Nat.zero_le _) rfl | exact Rn.ptr (Nat.zero_le _) rfl | exact Rn.map (Nat.zero_le _) rfl | exact Rn.slnil (Nat.zero_le _) rfl | refine RB.newnil rfl ?_ | refine RB.cells rfl rfl ?_ ?_ | refine RB.map rfl rfl ?_ ?_)
              · refine RT.cons' t1 ?_ (RT.cons' t2 ?_ (RT.cons' t3 ?_ (RT.cons' t5 ?_ (RT.cons' t6 ?_ (RT.cons' t7 ?_ RT.nil))))) <;> repeat' (first | exact RB.nil | (refine RnL.same ?_; first | rfl | (simp only [noRef, noRefs, noRefs_append, noRefs_ints, noRefs_lsts, noRefs_pad, noRef_arcs, noRef_tns, Bool.and_self, Bool.and_true, Bool.true_and]; done)) | exact RnL.nil | refine RnL.cons ?_ ?_ | (refine Rn.same ?_; first | rfl | (simp only [noRef, noRefs, noRefs_append, noRefs_ints, noRefs_lsts, noRefs_pad, noRef_arcs, noRef_tns, Bool.and_self, Bool.and_true, Bool.true_and]; done)) | exact Rn.sl (Nat.zero_le _) rfl | exact Rn.ptr (Nat.zero_le _) rfl | exact Rn.map (Nat.zero_le _) rfl | exact Rn.slnil (Nat.zero_le _) rfl | refine RB.newnil rfl ?_ | refine RB.cells rfl rfl ?_ ?_ | refine RB.map rfl rfl ?_ ?_)
            by_cases c1 : 0 < y % 9 / 3 <;> by_cases c2 : 0 < y % 9 % 3
            · rw [if_pos c1] at e1
              rw [if_pos c2] at e2
              simp (config := { maxSteps := 1000000 }) (disch := first | omega | (simp only [List.length_map, List.length_append, List.length_cons, List.length_nil, ints_len] <;> omega)) only [hlt, h6, hd, hld, hp5', ints_len, hil, hpl2, tm9, tm3, td3, c1, c2, wordsN, Int.reduceGT, wordsR, ne_eq, words, Nat.reduceAdd, Nat.reduceEqDiff, Nat.reduceBEq, ↓reduceIte, reduceCtorEq, SX.exit.injEq, if_true, if_false, Int.reduceAdd, Int.reduceSub, Int.reduceMul, Int.reduceLT, Int.reduceLE, Int.reduceEq, Int.reduceNe, Int.reduceNeg, Int.reduceToNat, Nat.reduceMul, Nat.reduceLT, Nat.reduceSub, Nat.reduceLeDiff]
              refine hfin _ _ _ _ 1 1 0 e1 e2 ?_ ?_ ?_ ?_ ?_ ?_ ?_ ?_ ?_ ?_ ?_ ?_ ?_ <;> first | rfl | (rw [List.length_append, List.length_append]; rfl) | (rw [List.length_append]; rfl) | (rw [List.flatMap_append]; rfl)
            · rw [if_pos c1] at e1
              rw [if_neg c2, List.append_nil] at e2
              simp (config := { maxSteps := 1000000 }) (disch := first | omega | (simp only [List.length_map, List.length_append, List.length_cons, List.length_nil, ints_len] <;> omega)) only [hlt, h6, hd, hld, hp5', ints_len, hil, hpl2, tm9, tm3, td3, c1, c2, wordsN, Int.reduceGT, wordsR, ne_eq, words, Nat.reduceAdd, Nat.reduceEqDiff, Nat.reduceBEq, ↓reduceIte, reduceCtorEq, SX.exit.injEq, if_true, if_false, Int.reduceAdd, Int.reduceSub, Int.reduceMul, Int.reduceLT, Int.reduceLE, Int.reduceEq, Int.reduceNe, Int.reduceNeg, Int.reduceToNat, Nat.reduceMul, Nat.reduceLT, Nat.reduceSub, Nat.reduceLeDiff]
              refine hfin _ _ _ _ 1 0 0 e1 e2 ?_ ?_ ?_ ?_ ?_ ?_ ?_ ?_ ?_ ?_ ?_ ?_ ?_ <;> first | rfl | (rw [List.length_append, List.length_append]; rfl) | (rw [List.length_append]; rfl) | (rw [List.flatMap_append]; rfl)
            · rw [if_neg c1, List.append_nil] at e1
              rw [if_pos c2] at e2
              simp (config := { maxSteps := 1000000 }) (disch := first | omega | (simp only [List.length_map, List.length_append, List.length_cons, List.length_nil, ints_len] <;> omega)) only [hlt, h6, hd, hld, hp5', ints_len, hil, hpl2, tm9, tm3, td3, c1, c2, wordsN, Int.reduceGT, wordsR, ne_eq, words, Nat.reduceAdd, Nat.reduceEqDiff, Nat.reduceBEq, ↓reduceIte, reduceCtorEq, SX.exit.injEq, if_true, if_false, Int.reduceAdd, Int.reduceSub, Int.reduceMul, Int.reduceLT, Int.reduceLE, Int.reduceEq, Int.reduceNe, Int.reduceNeg, Int.reduceToNat, Nat.reduceMul, Nat.reduceLT, Nat.reduceSub, Nat.reduceLeDiff]
              refine hfin _ _ _ _ 0 1 0 e1 e2 ?_ ?_ ?_ ?_ ?_ ?_ ?_ ?_ ?_ ?_ ?_ ?_ ?_ <;> first | rfl | (rw [List.length_append, List.length_append]; rfl) | (rw [List.length_append]; rfl) | (rw [List.flatMap_append]; rfl)
            · rw [if_neg c1, List.append_nil] at e1
              rw [if_neg c2, List.append_nil] at e2
              simp (config := { maxSteps := 1000000 }) (disch := first | omega | (simp only [List.length_map, List.length_append, List.length_cons, List.length_nil, ints_len] <;> omega)) only [hlt, h6, hd, hld, hp5', ints_len, hil, hpl2, tm9, tm3, td3, c1, c2, wordsN, Int.reduceGT, wordsR, ne_eq, words, Nat.reduceAdd, Nat.reduceEqDiff, Nat.reduceBEq, ↓reduceIte, reduceCtorEq, SX.exit.injEq, if_true, if_false, Int.reduceAdd, Int.reduceSub, Int.reduceMul, Int.reduceLT, Int.reduceLE, Int.reduceEq, Int.reduceNe, Int.reduceNeg, Int.reduceToNat, Nat.reduceMul, Nat.reduceLT, Nat.reduceSub, Nat.reduceLeDiff]
              refine hfin _ _ _ _ 0 0 0 e1 e2 ?_ ?_ ?_ ?_ ?_ ?_ ?_ ?_ ?_ ?_ ?_ ?_ ?_ <;> first | rfl | (rw [List.length_append, List.length_append]; rfl) | (rw [List.length_append]; rfl) | (rw [List.flatMap_append]; rfl)
          · have e : p = plN s := by omega
            have f1 := arcs_len (arcR row (· / 3) p)
            have f2 := arcs_len (arcR row (· % 3) p)
            have nr : ∀ l, noRefs (List.flatMap arcC l) = true := fun l => noRefs_flat fun _ => rfl
            simp (config := { maxSteps := 1000000 }) (disch := first | omega | (simp only [List.length_map, List.length_append, List.length_cons, List.length_nil, ints_len] <;> omega)) only [hlt, h6, hd, hpl2, hil, ints_len, wordsN, Int.reduceGT, wordsR, ne_eq, words, Nat.reduceAdd, Nat.reduceEqDiff, Nat.reduceBEq, ↓reduceIte, reduceCtorEq, SX.exit.injEq, if_true, if_false, Int.reduceAdd, Int.reduceSub, Int.reduceMul, Int.reduceLT, Int.reduceLE, Int.reduceEq, Int.reduceNe, Int.reduceNeg, Int.reduceToNat, Nat.reduceMul, Nat.reduceLT, Nat.reduceSub, Nat.reduceLeDiff]
            refine ⟨(), ?_⟩
            refine ⟨[(51, .blk 51 0), (52, .blk 52 0), (64, .blk 64 0), (65, .blk 65 0), (66, .blk 66 0)], rfl, ?_, (by repeat (first | exact RT.nil | (refine RT.cons ?_ ?_; · (first | exact Rn.any | exact Rn.sl (Nat.zero_le _) rfl | exact Rn.ptr (Nat.zero_le _) rfl | exact Rn.map (Nat.zero_le _) rfl | exact Rn.slnil (Nat.zero_le _) rfl | (refine Rn.slot ?_ ?_; (first | rfl | (rw [Int.natCast_add]; rfl)); (first | rfl | (simp only [noRef, noRefs, noRefs_append, noRefs_ints, noRefs_lsts, noRefs_pad, noRef_arcs, noRef_tns, Bool.and_self, Bool.and_true, Bool.true_and]; done)))))))⟩
            refine RB.cells rfl rfl (RnL.same (htr _)) (RB.cells rfl rfl (RnL.cons (Rn.same rfl) (RnL.cons (Rn.fzm rfl rfl rfl (by rw [e]) f1 (RnL.eq (by rw [e]) (nr _))) (RnL.cons (Rn.fzm rfl rfl rfl (by rw [e]) f2 (RnL.eq (by rw [e]) (nr _))) RnL.nil))) (RB.cells rfl rfl (RnL.same hsm) ?_))
            repeat' (first | exact RB.nil | (refine RnL.same ?_; first | rfl | (simp only [noRef, noRefs, noRefs_append, noRefs_ints, noRefs_lsts, noRefs_pad, noRef_arcs, noRef_tns, Bool.and_self, Bool.and_true, Bool.true_and]; done)) | exact RnL.nil | refine RnL.cons ?_ ?_ | (refine Rn.same ?_; first | rfl | (simp only [noRef, noRefs, noRefs_append, noRefs_ints, noRefs_lsts, noRefs_pad, noRef_arcs, noRef_tns, Bool.and_self, Bool.and_true, Bool.true_and]; done)) | exact Rn.sl (Nat.zero_le _) rfl | exact Rn.ptr (Nat.zero_le _) rfl | exact Rn.map (Nat.zero_le _) rfl | exact Rn.slnil (Nat.zero_le _) rfl | refine RB.newnil rfl ?_ | refine RB.cells rfl rfl ?_ ?_ | refine RB.map rfl rfl ?_ ?_)
        rintro _ -
        have f3 := tns_len (trR s i)
        have f4 := trR_len s i
        have e3 := trR_succ s i
        rw [hrD] at e3
        simp (config := { maxSteps := 1000000 }) (disch := first | omega | (simp only [List.length_map, List.length_append, List.length_cons, List.length_nil, ints_len] <;> omega)) only [wordsN, Int.reduceGT, wordsR, ne_eq, words, Nat.reduceAdd, Nat.reduceEqDiff, Nat.reduceBEq, ↓reduceIte, reduceCtorEq, SX.exit.injEq, if_true, if_false, Int.reduceAdd, Int.reduceSub, Int.reduceMul, Int.reduceLT, Int.reduceLE, Int.reduceEq, Int.reduceNe, Int.reduceNeg, Int.reduceToNat, Nat.reduceMul, Nat.reduceLT, Nat.reduceSub, Nat.reduceLeDiff]
        refine ⟨i + 1, by omega, by omega, ?_⟩
        refine ⟨[(51, .blk 51 1), (64, .blk 64 0), (65, .blk 65 0), (66, .blk 66 0)], rfl, ?_, (by repeat (first | exact RT.nil | (refine RT.cons ?_ ?_; · (first | exact Rn.any | exact Rn.sl (Nat.zero_le _) rfl | exact Rn.ptr (Nat.zero_le _) rfl | exact Rn.map (Nat.zero_le _) rfl | exact Rn.slnil (Nat.zero_le _) rfl | (refine Rn.slot ?_ ?_; (first | rfl | (rw [Int.natCast_add]; rfl)); (first | rfl | (simp only [noRef, noRefs, noRefs_append, noRefs_ints, noRefs_lsts, noRefs_pad, noRef_arcs, noRef_tns, Bool.and_self, Bool.and_true, Bool.true_and]; done)))))))⟩
        refine RB.cells rfl rfl (RnL.eq (by rw [e3, List.flatMap_append]; rfl) (noRefs_flat fun t => by simp only [tnC, noRefs, noRef_arcs, Bool.and_true]; rfl)) (RB.cells rfl rfl (RnL.same hsm) ?_)
        repeat' (first | exact RB.nil | (refine RnL.same ?_; first | rfl | (simp only [noRef, noRefs, noRefs_append, noRefs_ints, noRefs_lsts, noRefs_pad, noRef_arcs, noRef_tns, Bool.and_self, Bool.and_true, Bool.true_and]; done)) | exact RnL.nil | refine RnL.cons ?_ ?_ | (refine Rn.same ?_; first | rfl | (simp only [noRef, noRefs, noRefs_append, noRefs_ints, noRefs_lsts, noRefs_pad, noRef_arcs, noRef_tns, Bool.and_self, Bool.and_true, Bool.true_and]; done)) | exact Rn.sl (Nat.zero_le _) rfl | exact Rn.ptr (Nat.zero_le _) rfl | exact Rn.map (Nat.zero_le _) rfl | exact Rn.slnil (Nat.zero_le _) rfl | refine RB.newnil rfl ?_ | refine RB.cells rfl rfl ?_ ?_ | refine RB.map rfl rfl ?_ ?_)
      · have hl5' : ¬ (i : Int) < 5 := by omega
        have e : i = min s.mv.length 5 := by omega
        have f3 := tns_len (trR s i)
        have f4 := trR_len s i
        simp (config := { maxSteps := 1000000 }) (disch := first | omega | (simp only [List.length_map, List.length_append, List.length_cons, List.length_nil, ints_len] <;> omega)) only [hlt, hl5', h6, wordsN, Int.reduceGT, wordsR, ne_eq, words, Nat.reduceAdd, Nat.reduceEqDiff, Nat.reduceBEq, ↓reduceIte, reduceCtorEq, SX.exit.injEq, if_true, if_false, Int.reduceAdd, Int.reduceSub, Int.reduceMul, Int.reduceLT, Int.reduceLE, Int.reduceEq, Int.reduceNe, Int.reduceNeg, Int.reduceToNat, Nat.reduceMul, Nat.reduceLT, Nat.reduceSub, Nat.reduceLeDiff]
        refine ⟨(), ?_⟩
        refine ⟨[(65, .blk 65 0), (66, .blk 66 0)], rfl, ?_, (by repeat (first | exact RT.nil | (refine RT.cons ?_ ?_; · (first | exact Rn.any | exact Rn.sl (Nat.zero_le _) rfl | exact Rn.ptr (Nat.zero_le _) rfl | exact Rn.map (Nat.zero_le _) rfl | exact Rn.slnil (Nat.zero_le _) rfl | (refine Rn.slot ?_ ?_; (first | rfl | (rw [Int.natCast_add]; rfl)); (first | rfl | (simp only [noRef, noRefs, noRefs_append, noRefs_ints, noRefs_lsts, noRefs_pad, noRef_arcs, noRef_tns, Bool.and_self, Bool.and_true, Bool.true_and]; done)))))))⟩
        refine RB.cells rfl rfl ?_ (RB.cells rfl rfl (RnL.cons (Rn.same (noRef_sli _)) (RnL.cons (Rn.fzm rfl rfl rfl (by rw [mkN, trR_len, e]) (by omega) (RnL.eq (by rw [mkN, e]) (htr _))) RnL.nil)) RB.nil)
        repeat' (first | exact RB.nil | (refine RnL.same ?_; first | rfl | (simp only [noRef, noRefs, noRefs_append, noRefs_ints, noRefs_lsts, noRefs_pad, noRef_arcs, noRef_tns, Bool.and_self, Bool.and_true, Bool.true_and]; done)) | exact RnL.nil | refine RnL.cons ?_ ?_ | (refine Rn.same ?_; first | rfl | (simp only [noRef, noRefs, noRefs_append, noRefs_ints, noRefs_lsts, noRefs_pad, noRef_arcs, noRef_tns, Bool.and_self, Bool.and_true, Bool.true_and]; done)) | exact Rn.sl (Nat.zero_le _) rfl | exact Rn.ptr (Nat.zero_le _) rfl | exact Rn.map (Nat.zero_le _) rfl | exact Rn.slnil (Nat.zero_le _) rfl | refine RB.newnil rfl ?_ | refine RB.cells rfl rfl ?_ ?_ | refine RB.map rfl rfl ?_ ?_)
    · have e : i = min s.mv.length 5 := by omega
      have f3 := tns_len (trR s i)
      have f4 := trR_len s i
      simp (config := { maxSteps := 1000000 }) (disch := first | omega | (simp only [List.length_map, List.length_append, List.length_cons, List.length_nil, ints_len] <;> omega)) only [hlt, h6, wordsN, Int.reduceGT, wordsR, ne_eq, words, Nat.reduceAdd, Nat.reduceEqDiff, Nat.reduceBEq, ↓reduceIte, reduceCtorEq, SX.exit.injEq, if_true, if_false, Int.reduceAdd, Int.reduceSub, Int.reduceMul, Int.reduceLT, Int.reduceLE, Int.reduceEq, Int.reduceNe, Int.reduceNeg, Int.reduceToNat, Nat.reduceMul, Nat.reduceLT, Nat.reduceSub, Nat.reduceLeDiff]
      refine ⟨(), ?_⟩
      refine ⟨[(65, .blk 65 0), (66, .blk 66 0)], rfl, ?_, (by repeat (first | exact RT.nil | (refine RT.cons ?_ ?_; · (first | exact Rn.any | exact Rn.sl (Nat.zero_le _) rfl | exact Rn.ptr (Nat.zero_le _) rfl | exact Rn.map (Nat.zero_le _) rfl | exact Rn.slnil (Nat.zero_le _) rfl | (refine Rn.slot ?_ ?_; (first | rfl | (rw [Int.natCast_add]; rfl)); (first | rfl | (simp only [noRef, noRefs, noRefs_append, noRefs_ints, noRefs_lsts, noRefs_pad, noRef_arcs, noRef_tns, Bool.and_self, Bool.and_true, Bool.true_and]; done)))))))⟩
      refine RB.cells rfl rfl ?_ (RB.cells rfl rfl (RnL.cons (Rn.same (noRef_sli _)) (RnL.cons (Rn.fzm rfl rfl rfl (by rw [mkN, trR_len, e]) (by omega) (RnL.eq (by rw [mkN, e]) (htr _))) RnL.nil)) RB.nil)
      repeat' (first | exact RB.nil | (refine RnL.same ?_; first | rfl | (simp only [noRef, noRefs, noRefs_append, noRefs_ints, noRefs_lsts, noRefs_pad, noRef_arcs, noRef_tns, Bool.and_self, Bool.and_true, Bool.true_and]; done)) | exact RnL.nil | refine RnL.cons ?_ ?_ | (refine Rn.same ?_; first | rfl | (simp only [noRef, noRefs, noRefs_append, noRefs_ints, noRefs_lsts, noRefs_pad, noRef_arcs, noRef_tns, Bool.and_self, Bool.and_true, Bool.true_and]; done)) | exact Rn.sl (Nat.zero_le _) rfl | exact Rn.ptr (Nat.zero_le _) rfl | exact Rn.map (Nat.zero_le _) rfl | exact Rn.slnil (Nat.zero_le _) rfl | refine RB.newnil rfl ?_ | refine RB.cells rfl rfl ?_ ?_ | refine RB.map rfl rfl ?_ ?_)
  rintro _ -
  simp (config := { maxSteps := 1000000 }) (disch := first | omega | (simp only [List.length_map, List.length_append, List.length_cons, List.length_nil, ints_len] <;> omega)) only [wordsN, Int.reduceGT, wordsR, ne_eq, words, Nat.reduceAdd, Nat.reduceEqDiff, Nat.reduceBEq, ↓reduceIte, reduceCtorEq, SX.exit.injEq, if_true, if_false, Int.reduceAdd, Int.reduceSub, Int.reduceMul, Int.reduceLT, Int.reduceLE, Int.reduceEq, Int.reduceNe, Int.reduceNeg, Int.reduceToNat, Nat.reduceMul, Nat.reduceLT, Nat.reduceSub, Nat.reduceLeDiff]
  exact ⟨.inr trivial, _, rfl, Rn.same (noRef_net _)⟩
end Go.AM.SN
