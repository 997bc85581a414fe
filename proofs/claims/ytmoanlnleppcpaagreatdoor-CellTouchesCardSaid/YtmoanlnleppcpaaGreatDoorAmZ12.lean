/- A part of the proof of CellTouchesCardSaid: lemmas on the way (AmBo, AmCa, AmCb, AmFa, AmBFb, AmBw, AmBFd, AmBy, AmBFe, AmCc, AmCe, AmCf, AmTi, AmCg, AmCh, AmCm, AmCu, AmCi, AmCk, AmCl, AmCn, AmCv, AmCw, AmCyc, AmCyd, AmCyb, AmCye, AmCyf, AmCyh, AmCyg, AmCyi, AmCyj, AmCzd, AmCr, AmCze, AmCzc, AmCzf). Conditions: none of ours. -/
import Derived.KernelRfl
import Derived.Test.YtmoanlnleppcpaaGreatDoorProg
import Derived.Test.YtmoanlnleppcpaaGreatDoorAmZ11
set_option linter.unusedSectionVars false
set_option maxHeartbeats 32000000
set_option maxRecDepth 100000
set_option linter.unusedVariables false
set_option linter.unusedSimpArgs false
namespace Go.AM.SE
open Go.Proofs Go.AM.SD
def u8s (l : List Nat) : List AV := l.map fun x : Nat => .int .u8 (x : Int)
theorem Qaq (l : List Nat) : noRefs (u8s l) = true := Qcx (fun _ => rfl) l
theorem Qf5 {l : List Nat} {i x : Nat} (h : l[i]? = some x) : (u8s l)[i]? = some (.int .u8 (x : Int)) := by simp [u8s, h]
def gEd (al : List Nat) (n : Nat) (T : List Nat) (i k : Nat) : Option Ed := if T.getD (i * 5 + k) 0 % (n + 2) < n then some (i, al.getD k 0, T.getD (i * 5 + k) 0 % (n + 2)) else none
def gRow (al : List Nat) (n : Nat) (T : List Nat) (i k : Nat) : List Ed := (List.range k).filterMap (gEd al n T i)
def gPre (al : List Nat) (n : Nat) (T : List Nat) (i : Nat) : List Ed := (List.range i).flatMap fun i => gRow al n T i al.length
def gPart (al : List Nat) (n : Nat) (T : List Nat) (i k : Nat) : List Ed := gPre al n T i ++ gRow al n T i k
def gRaw (al : List Nat) (st mk : Nat) (T : List Nat) : Aut := if 250 <= st then ⟨al, 0, [], []⟩ else ⟨al, 1 + st % 5, SD.part (1 + st % 5) mk, gPre al (1 + st % 5) T (1 + st % 5)⟩
theorem Qmy {al : List Nat} {n : Nat} {T : List Nat} {i k : Nat} {e : Ed} (h : e ∈ gRow al n T i k) : e.1 = i /\ e.2.2 < n := by
 unfold gRow at h
 obtain ⟨j, _, hj⟩ := List.mem_filterMap.1 h
 unfold gEd at hj
 split at hj
 ·rename_i h1; cases hj; exact ⟨rfl, h1⟩
 ·cases hj
theorem Qhj {al : List Nat} {n : Nat} {T : List Nat} {i k : Nat} : gRow al n T i (k + 1) = gRow al n T i k ++ match gEd al n T i k with | some e => [e] | none => [] := by
 unfold gRow
 rw [List.range_succ, List.filterMap_append]
 congr 1
 cases e : gEd al n T i k <;> simp [e]
theorem Qfv {al : List Nat} {n : Nat} {T : List Nat} {i k : Nat} : (gRow al n T i k).length <= k := by
 unfold gRow; exact Nat.le_trans (List.length_filterMap_le _ _) (by simp)
theorem Qfw {al : List Nat} {n : Nat} {T : List Nat} (hal : al.length <= 5) : ∀ i, (gPre al n T i).length <= i * 5
 | 0 => by simp [gPre]
 | i + 1 => by
  have h1 := Qfw (n := n) (T := T) hal i
  have h2 := @Qfv al n T i al.length
  unfold gPre at h1 ⊢
  rw [List.range_succ, List.flatMap_append, List.length_append, Nat.succ_mul, List.flatMap_cons, List.flatMap_nil, List.append_nil]
  omega
theorem QlI {al : List Nat} {n : Nat} {T : List Nat} {i : Nat} : gPre al n T (i + 1) = gPart al n T i al.length := by
 unfold gPart gPre
 rw [List.range_succ, List.flatMap_append, List.flatMap_cons, List.flatMap_nil, List.append_nil]
theorem QdV {al : List Nat} {st mk : Nat} {T : List Nat} (hal : al.length <= 5) : Raw (gRaw al st mk T) := by
  unfold gRaw
  split
  · exact ⟨by simp, by simp, by simp, by dsimp only; omega, by simp⟩
  · have h5 : 1 + st % 5 <= 5 := by omega
    refine ⟨fun e he => ?_, h5, ?_, by dsimp only; omega, ?_⟩
    · unfold gPre at he
      obtain ⟨i, hi, he⟩ := List.mem_flatMap.1 he
      have := List.mem_range.1 hi
      obtain ⟨h1, h2⟩ := Qmy he
      exact ⟨by rw [h1]; exact this, h2⟩
    · have := Qfw (n := 1 + st % 5) (T := T) hal (1 + st % 5)
      dsimp only; omega
    · have := @Qcp (1 + st % 5) mk
      dsimp only; omega
def mkA (al : List Nat) (st mk : Nat) (T : List Nat) : Aut := canon (gRaw al st mk T)
theorem QnD {al : List Nat} {st mk : Nat} {T : List Nat} (hs : al.Pairwise (· < ·)) (h5 : ∀ x ∈ al, x < 5) : WfA (mkA al st mk T) := by
 have hal : al.length <= 5 := Qcd hs h5
 have hr := QdV (st := st) (mk := mk) (T := T) hal
 have ha : (gRaw al st mk T).al = al := by unfold gRaw; split <;> rfl
 exact Qmm (by rw [ha]; exact hs) (by rw [ha]; exact h5) hr.n5 hr.esn
abbrev grV (st mk : Nat) (T : List Nat) : AV := .agg (.int .u8 (st : Int) :: .int .u8 (mk : Int) :: u8s T)
theorem _root_.Go.AM.au9 {p : Prop} (h : p := by repeat' (first | exact RB.nil | (refine RnL.same ?_; first | rfl | (simp only [noRef, noRefs, Qak, Bool.and_self, Bool.and_true, Bool.true_and, Qaa, Qaq, Qaf, Qad, Qag, Qas, Qbf, Qae, QaB, Qac, Qa1, QaI, Qaj, Qan, Qby]; done)) | exact RnM.keyM rfl | exact RnL.nil | exact (True.intro : RnM _ _ _ [] []) | refine RnL.cons ?_ ?_ | (refine Rn.same ?_; first | rfl | (simp only [noRef, noRefs, Qak, Bool.and_self, Bool.and_true, Bool.true_and, Qaa, Qaq, Qaf, Qad, Qag, Qas, Qbf, Qae, QaB, Qac, Qa1, QaI, Qaj, Qan, Qby]; done)) | exact Rn.x1 rfl rfl | exact Rn.x2 rfl rfl | exact Rn.x3 rfl rfl | exact Rn.x4 rfl rfl | exact Rn.x5 rfl | exact Rn.x6 rfl | exact Rn.x7 rfl | refine RB.newnil rfl rfl ?_ | refine RB.cells rfl rfl rfl ?_ ?_ | refine RB.map rfl rfl rfl ?_ ?_ | refine RB.cellsB rfl rfl ?_ ?_ | refine RB.mapB rfl rfl ?_ ?_)) : p := h
theorem _root_.Go.AM.au10 {p : Prop} (h : p := by repeat (first | exact RT.nil | (refine RT.cons ?_ ?_; · (first | exact Rn.any | exact Rn.x1 rfl rfl | exact Rn.x2 rfl rfl | exact Rn.x3 rfl rfl | exact Rn.x4 rfl rfl | exact Rn.x5 rfl | exact Rn.x6 rfl | exact Rn.x7 rfl | (refine Rn.slot ?_ ?_; (first | rfl | (rw [Int.natCast_add]; rfl)); (first | rfl | (simp only [noRef, noRefs, Qak, Bool.and_self, Bool.and_true, Bool.true_and, Qaa, Qaq, Qaf, Qad, Qag, Qas, Qbf, Qae, QaB, Qac, Qa1, QaI, Qaj, Qan, Qby]; done))) | (refine Rn.fn ?_ ?_ <;> (repeat' (first | exact RnL.nil | refine RnL.cons ?_ ?_ | exact Rn.same rfl | exact Rn.x6 rfl | exact Rn.x2 rfl rfl | exact Rn.x5 rfl | exact Rn.x1 rfl rfl))))))) : p := h
theorem Make32 (al : List Nat) (st mk : Nat) (T : List Nat) (hs : al.Pairwise (· < ·)) (h5 : ∀ x ∈ al, x < 5) (hst : st < 256) (hmk : mk < 256) (hT : T.length = 25) (hT8 : ∀ x ∈ T, x < 256) :
    PSpec Tryz.prog 185 [sliN al, grV st mk T] (aV (mkA al st mk T)) := by
  have hal : al.length <= 5 := Qcd hs h5
  have hlu : (u8s T).length = 25 := by simp [u8s, hT]
  have hcan := canon46 (gRaw al st mk T) (QdV hal)
  refine PSpec.of_rn 40 ok185 rfl (by (try simp only [noRefs, Qaq, Qaj, Qan, Qaa, Qaf, Qad, Qag, Qas, Qae, noRef, Bool.and_self, Bool.and_true]) <;> rfl) (Qco _) ?_
  unfold mkA
  by_cases h0 : 250 <= st
  · have h0' : (250 : Int) <= (st : Int) := by omega
    have hr : gRaw al st mk T = ⟨al, 0, [], []⟩ := if_pos h0
    have hc : canon (gRaw al st mk T) = ⟨al, 0, [], []⟩ := by rw [hr]; rfl
    rw [hc]
    simp (disch := first | omega | (simp only [lenW] <;> omega)) only [s185, h0', wW, wV, simprocAttr]
    refine cp (empty45 al (by omega)) ?_
    simp (disch := first | omega | (simp only [lenW] <;> omega)) only [wW, wV, simprocAttr]
    refine ⟨.inr trivial, _, rfl, ?_⟩
    exact Rn.agg (RnL.cons (Rn.same (Qac _)) (RnL.cons (Rn.same rfl) (RnL.cons Rn.nilK (RnL.cons Rn.nilK RnL.nil))))
  have h0' : ¬ (250 : Int) <= (st : Int) := by omega
  have hr : gRaw al st mk T = ⟨al, 1 + st % 5, SD.part (1 + st % 5) mk, gPre al (1 + st % 5) T (1 + st % 5)⟩ := if_neg h0
  rw [hr] at hcan ⊢
  have hn5 : 1 + st % 5 <= 5 := by omega
  obtain ⟨n, hN⟩ : ∃ n, n = 1 + st % 5 := ⟨_, rfl⟩
  rw [<- hN] at hr hcan hn5 ⊢
  have hnn : (1 : Int) + ((st % 5 : Nat) : Int) = (n : Int) := by omega
  simp (disch := first | omega | (simp only [lenW] <;> omega)) only [s185, h0', wW, wV, simprocAttr]
  refine cp (empty45 al (by omega)) ?_
  have htm : (st : Int).tmod 5 = ((st % 5 : Nat) : Int) := by
    rw [Int.tmod_eq_emod_of_nonneg (Int.natCast_nonneg _)]; norm_cast
  simp (disch := first | omega | (simp only [lenW] <;> omega)) only [htm, hnn, wW, wV, simprocAttr]
  refine Qav 100 (fun i : Nat => [(0, sliN al), (3, .ptr 50 0 0), (4, .ptr 51 0 0), (5, .ptr 52 0 0), (6, .int .i64 i)])
    (fun i => [(50, .cells 0 (.int .u8 (st : Int) :: .int .u8 (mk : Int) :: u8s T)), (51, .cells 0 [.nilsl, .int .i64 0, .nilsl, .nilsl]), (52, .cells 0 [sliN al, .int .i64 (n : Int), .sl 77 0 0 (SD.part i mk).length 1, .sl 76 0 0 (gPre al n T i).length 3]), (76, .cells 0 ((gPre al n T i).flatMap edC)), (77, .cells 0 (ints (nz (SD.part i mk))))])
    (fun i => i <= n) (fun i => n - i) 0 0 160
    (fun _ : Unit => [(4, .ptr 51 0 0), (5, .ptr 52 0 0)])
    (fun _ => [(51, .cells 0 [.nilsl, .int .i64 0, .nilsl, .nilsl]), (52, .cells 0 [sliN al, .int .i64 (n : Int), sliN (SD.part n mk), egsN (gPre al n T n)])]) (fun _ => True) ?_ (Nat.zero_le _) ?_ ?_
  · exact ⟨[(50, .blk 40 0), (51, .blk 41 0), (52, .blk 47 0), (76, .nil), (77, .nil)], rfl, au0, au9, au10⟩
  · rintro i hi
    by_cases hlt : i < n
    · have hpt := QcC (n := n) (b := mk) (i := i)
      have hpl := @Qcp i mk
      have hgl := Qfw (n := n) (T := T) hal i
      have hg0 : gPart al n T i 0 = gPre al n T i := by simp [gPart, gRow]
      have hgs := QlI (al := al) (n := n) (T := T) (i := i)
      have hed0 := QbG (gPre al n T i)
      generalize hM1 : SD.part (i + 1) mk = M1 at *
      generalize hM : SD.part i mk = M at *
      by_cases hmv : mk.testBit i = true
      · rw [if_pos hmv] at hpt
        have hb := QcQ.2 hmv
        simp (disch := first | omega | (simp only [lenW] <;> omega)) only [hlt, Qb0 (k := .u8) (show i <= 8 by omega), Qb1, hb, wW, wV, simprocAttr]
        refine Qav 300 (fun k : Nat => [(0, sliN al), (3, .ptr 50 0 0), (4, .ptr 51 0 0), (5, .ptr 52 0 0), (6, .int .i64 i), (7, .int .i64 k)])
          (fun k => [(50, .cells 0 (.int .u8 (st : Int) :: .int .u8 (mk : Int) :: u8s T)), (51, .cells 0 [.nilsl, .int .i64 0, .nilsl, .nilsl]), (52, .cells 0 [sliN al, .int .i64 (n : Int), .sl 77 0 0 M1.length 1, .sl 76 0 0 (gPart al n T i k).length 3]), (76, .cells 0 ((gPart al n T i k).flatMap edC)), (77, .cells 0 (ints (nz M1)))])
          (fun k => k <= al.length) (fun k => al.length - k) 0 2 400
          (fun _ : Unit => [(0, sliN al), (3, .ptr 50 0 0), (4, .ptr 51 0 0), (5, .ptr 52 0 0), (6, .int .i64 i)])
          (fun _ => [(50, .cells 0 (.int .u8 (st : Int) :: .int .u8 (mk : Int) :: u8s T)), (51, .cells 0 [.nilsl, .int .i64 0, .nilsl, .nilsl]), (52, .cells 0 [sliN al, .int .i64 (n : Int), .sl 77 0 0 M1.length 1, .sl 76 0 0 (gPre al n T (i + 1)).length 3]), (76, .cells 0 ((gPre al n T (i + 1)).flatMap edC)), (77, .cells 0 (ints (nz M1)))]) (fun _ => True) ?_ (Nat.zero_le _) ?_ ?_
        · rw [hg0, hpt, List.length_append, QaF, Qax]
          exact ⟨[(50, .blk 50 0), (51, .blk 51 0), (52, .blk 52 0), (76, .blk 76 0), (77, .blk 77 1)], rfl, au0, au9, au10⟩
        · rintro k hk
          by_cases hkl : k < al.length
          · obtain ⟨ev, hev⟩ := Qap hkl
            have hevD : al.getD k 0 = ev := by rw [List.getD_eq_getElem?_getD, hev]; rfl
            obtain ⟨x, hx⟩ := Qap (l := T) (i := i * 5 + k) (by omega)
            have hxD : T.getD (i * 5 + k) 0 = x := by rw [List.getD_eq_getElem?_getD, hx]; rfl
            have hx8 := hT8 x (List.mem_of_getElem? hx)
            have hk5 : (k : Int) < 5 := by omega
            have hi5 : (i : Int) < 5 := by omega
            have hgx : (AV.int .u8 (st : Int) :: AV.int .u8 (mk : Int) :: u8s T)[2 + i * 5 + k]? = some (.int .u8 (x : Int)) := by
              rw [show 2 + i * 5 + k = (i * 5 + k) + 2 by omega]
              simpa using Qf5 hx
            have hrm : (x : Int).tmod ((n : Int) + 2) = ((x % (n + 2) : Nat) : Int) := by
              rw [Int.tmod_eq_emod_of_nonneg (Int.natCast_nonneg _)]; norm_cast
            have hn0 : ¬ (n : Int) + 2 = 0 := by omega
            have hxm : x % (n + 2) <= 10 := by have := Nat.mod_lt x (show 0 < n + 2 by omega); omega
            have hst := Qhj (al := al) (n := n) (T := T) (i := i) (k := k)
            have hrl := @Qfv al n T i k
            have hps : gPart al n T i (k + 1) = gPart al n T i k ++ match gEd al n T i k with | some e => [e] | none => [] := by
              unfold gPart; rw [hst, List.append_assoc]
            have hpl2 : (gPart al n T i k).length <= 100 := by unfold gPart; rw [List.length_append]; omega
            have hpe := QbG (gPart al n T i k)
            unfold gEd at hps
            rw [hxD, hevD] at hps
            generalize gPart al n T i k = R at *
            by_cases ht : x % (n + 2) < n
            · rw [if_pos ht] at hps
              simp (disch := first | omega | (simp only [lenW] <;> omega)) only [hkl, hk5, hi5, hgx, hn0, hrm, ht, QaJ hev, hpe, wW, wV, simprocAttr]
              refine ⟨k + 1, by omega, by omega, ?_⟩
              rw [hps, List.flatMap_append, List.length_append]
              exact ⟨[(50, .blk 50 0), (51, .blk 51 0), (52, .blk 52 0), (76, .blk 76 1), (77, .blk 77 0)], rfl, au0, au9, au10⟩
            · rw [if_neg ht, List.append_nil] at hps
              simp (disch := first | omega | (simp only [lenW] <;> omega)) only [hkl, hk5, hi5, hgx, hn0, hrm, ht, wW, wV, simprocAttr]
              refine ⟨k + 1, by omega, by omega, ?_⟩
              rw [hps]
              exact ⟨[(50, .blk 50 0), (51, .blk 51 0), (52, .blk 52 0), (76, .blk 76 0), (77, .blk 77 0)], rfl, au0, au9, au10⟩
          · have e : k = al.length := by omega
            subst e
            simp (disch := first | omega | (simp only [lenW] <;> omega)) only [hkl, wW, wV, simprocAttr]
            refine ⟨(), ?_⟩
            rw [hgs]
            exact ⟨[(50, .blk 50 0), (51, .blk 51 0), (52, .blk 52 0), (76, .blk 76 0), (77, .blk 77 0)], rfl, au0, au9, au10⟩
        rintro _ _
        simp (disch := first | omega | (simp only [lenW] <;> omega)) only [wW, wV, simprocAttr]
        refine ⟨i + 1, by omega, by omega, ?_⟩
        rw [hM1]
        exact ⟨[(50, .blk 50 0), (51, .blk 51 0), (52, .blk 52 0), (76, .blk 76 0), (77, .blk 77 0)], rfl, au0, au9, au10⟩
      · rw [if_neg hmv, List.append_nil] at hpt
        have hb : ¬ ((mk / 2 ^ i % 2 : Nat) : Int) = 1 := fun e => hmv (QcQ.1 e)
        simp (disch := first | omega | (simp only [lenW] <;> omega)) only [hlt, Qb0 (k := .u8) (show i <= 8 by omega), Qb1, hb, wW, wV, simprocAttr]
        refine Qav 300 (fun k : Nat => [(0, sliN al), (3, .ptr 50 0 0), (4, .ptr 51 0 0), (5, .ptr 52 0 0), (6, .int .i64 i), (7, .int .i64 k)])
          (fun k => [(50, .cells 0 (.int .u8 (st : Int) :: .int .u8 (mk : Int) :: u8s T)), (51, .cells 0 [.nilsl, .int .i64 0, .nilsl, .nilsl]), (52, .cells 0 [sliN al, .int .i64 (n : Int), .sl 77 0 0 M1.length 1, .sl 76 0 0 (gPart al n T i k).length 3]), (76, .cells 0 ((gPart al n T i k).flatMap edC)), (77, .cells 0 (ints (nz M1)))])
          (fun k => k <= al.length) (fun k => al.length - k) 0 2 400
          (fun _ : Unit => [(0, sliN al), (3, .ptr 50 0 0), (4, .ptr 51 0 0), (5, .ptr 52 0 0), (6, .int .i64 i)])
          (fun _ => [(50, .cells 0 (.int .u8 (st : Int) :: .int .u8 (mk : Int) :: u8s T)), (51, .cells 0 [.nilsl, .int .i64 0, .nilsl, .nilsl]), (52, .cells 0 [sliN al, .int .i64 (n : Int), .sl 77 0 0 M1.length 1, .sl 76 0 0 (gPre al n T (i + 1)).length 3]), (76, .cells 0 ((gPre al n T (i + 1)).flatMap edC)), (77, .cells 0 (ints (nz M1)))]) (fun _ => True) ?_ (Nat.zero_le _) ?_ ?_
        · rw [hg0, hpt]
          exact ⟨[(50, .blk 50 0), (51, .blk 51 0), (52, .blk 52 0), (76, .blk 76 0), (77, .blk 77 0)], rfl, au0, au9, au10⟩
        · rintro k hk
          by_cases hkl : k < al.length
          · obtain ⟨ev, hev⟩ := Qap hkl
            have hevD : al.getD k 0 = ev := by rw [List.getD_eq_getElem?_getD, hev]; rfl
            obtain ⟨x, hx⟩ := Qap (l := T) (i := i * 5 + k) (by omega)
            have hxD : T.getD (i * 5 + k) 0 = x := by rw [List.getD_eq_getElem?_getD, hx]; rfl
            have hx8 := hT8 x (List.mem_of_getElem? hx)
            have hk5 : (k : Int) < 5 := by omega
            have hi5 : (i : Int) < 5 := by omega
            have hgx : (AV.int .u8 (st : Int) :: AV.int .u8 (mk : Int) :: u8s T)[2 + i * 5 + k]? = some (.int .u8 (x : Int)) := by
              rw [show 2 + i * 5 + k = (i * 5 + k) + 2 by omega]
              simpa using Qf5 hx
            have hrm : (x : Int).tmod ((n : Int) + 2) = ((x % (n + 2) : Nat) : Int) := by
              rw [Int.tmod_eq_emod_of_nonneg (Int.natCast_nonneg _)]; norm_cast
            have hn0 : ¬ (n : Int) + 2 = 0 := by omega
            have hxm : x % (n + 2) <= 10 := by have := Nat.mod_lt x (show 0 < n + 2 by omega); omega
            have hst := Qhj (al := al) (n := n) (T := T) (i := i) (k := k)
            have hrl := @Qfv al n T i k
            have hps : gPart al n T i (k + 1) = gPart al n T i k ++ match gEd al n T i k with | some e => [e] | none => [] := by
              unfold gPart; rw [hst, List.append_assoc]
            have hpl2 : (gPart al n T i k).length <= 100 := by unfold gPart; rw [List.length_append]; omega
            have hpe := QbG (gPart al n T i k)
            unfold gEd at hps
            rw [hxD, hevD] at hps
            generalize gPart al n T i k = R at *
            by_cases ht : x % (n + 2) < n
            · rw [if_pos ht] at hps
              simp (disch := first | omega | (simp only [lenW] <;> omega)) only [hkl, hk5, hi5, hgx, hn0, hrm, ht, QaJ hev, hpe, wW, wV, simprocAttr]
              refine ⟨k + 1, by omega, by omega, ?_⟩
              rw [hps, List.flatMap_append, List.length_append]
              exact ⟨[(50, .blk 50 0), (51, .blk 51 0), (52, .blk 52 0), (76, .blk 76 1), (77, .blk 77 0)], rfl, au0, au9, au10⟩
            · rw [if_neg ht, List.append_nil] at hps
              simp (disch := first | omega | (simp only [lenW] <;> omega)) only [hkl, hk5, hi5, hgx, hn0, hrm, ht, wW, wV, simprocAttr]
              refine ⟨k + 1, by omega, by omega, ?_⟩
              rw [hps]
              exact ⟨[(50, .blk 50 0), (51, .blk 51 0), (52, .blk 52 0), (76, .blk 76 0), (77, .blk 77 0)], rfl, au0, au9, au10⟩
          · have e : k = al.length := by omega
            subst e
            simp (disch := first | omega | (simp only [lenW] <;> omega)) only [hkl, wW, wV, simprocAttr]
            refine ⟨(), ?_⟩
            rw [hgs]
            exact ⟨[(50, .blk 50 0), (51, .blk 51 0), (52, .blk 52 0), (76, .blk 76 0), (77, .blk 77 0)], rfl, au0, au9, au10⟩
        rintro _ _
        simp (disch := first | omega | (simp only [lenW] <;> omega)) only [wW, wV, simprocAttr]
        refine ⟨i + 1, by omega, by omega, ?_⟩
        rw [hM1]
        exact ⟨[(50, .blk 50 0), (51, .blk 51 0), (52, .blk 52 0), (76, .blk 76 0), (77, .blk 77 0)], rfl, au0, au9, au10⟩
    · have e : i = n := by omega
      subst e
      simp (disch := first | omega | (simp only [lenW] <;> omega)) only [hlt, wW, wV, simprocAttr]
      refine ⟨(), [(51, .blk 51 0), (52, .blk 52 0)], rfl, RO.zero, ?_, au10⟩
      refine RB.cells rfl rfl rfl (RnL.same rfl) (RB.cells rfl rfl rfl (RnL.cons (Rn.same (Qac _)) (RnL.cons (Rn.same rfl) (RnL.cons (Rn.fzm rfl rfl rfl rfl (by simp [ints]) (RnL.same (Qaa _))) (RnL.cons (Rn.fzm rfl rfl rfl rfl (QbG _) (RnL.same (Qad _))) RnL.nil)))) RB.nil)
  rintro _ _
  simp (disch := first | omega | (simp only [lenW] <;> omega)) only [wW, wV, simprocAttr]
  refine cp hcan ?_
  generalize canon ⟨al, n, SD.part n mk, gPre al n T n⟩ = C at *
  simp (disch := first | omega | (simp only [lenW] <;> omega)) only [wW, wV, simprocAttr]
  exact ⟨.inr trivial, _, rfl, Rn.same (Qco _)⟩
end Go.AM.SE
namespace Go.AM.SO
open Go.Proofs Go.AM.SD Go.AM.SE
def mrg (k : Bool -> Bool -> Bool) : List Nat -> List Nat -> List Nat
 | [], [] => []
 | a :: A, [] => (if k true false = true then [a] else []) ++ mrg k A []
 | [], b :: B => (if k false true = true then [b] else []) ++ mrg k [] B
 | a :: A, b :: B => if a < b then (if k true false = true then [a] else []) ++ mrg k A (b :: B)
  else if b < a then (if k false true = true then [b] else []) ++ mrg k (a :: A) B
  else (if k true true = true then [a] else []) ++ mrg k A B
termination_by A B => A.length + B.length
theorem Qa8 {k : Bool -> Bool -> Bool} {x : Nat} : ∀ {A B : List Nat}, A.Pairwise (· < ·) -> B.Pairwise (· < ·) -> (x ∈ mrg k A B ↔ k (decide (x ∈ A)) (decide (x ∈ B)) = true /\ (x ∈ A \/ x ∈ B))
  | [], [], _, _ => by simp [mrg]
  | a :: A, [], hA, hB => by
    have ih := Qa8 (k := k) (x := x) (List.pairwise_cons.1 hA).2 hB
    have h1 := (List.pairwise_cons.1 hA).1
    rw [mrg, List.mem_append, ih]
    by_cases e : x = a
    · subst e
      have : x ∉ A := fun h => by have := h1 x h; omega
      by_cases hk : k true false = true <;> simp [this, hk]
    · by_cases hk : k true false = true <;> simp [e, hk]
  | [], b :: B, hA, hB => by
    have ih := Qa8 (k := k) (x := x) hA (List.pairwise_cons.1 hB).2
    have h1 := (List.pairwise_cons.1 hB).1
    rw [mrg, List.mem_append, ih]
    by_cases e : x = b
    · subst e
      have : x ∉ B := fun h => by have := h1 x h; omega
      by_cases hk : k false true = true <;> simp [this, hk]
    · by_cases hk : k false true = true <;> simp [e, hk]
  | a :: A, b :: B, hA, hB => by
    have hA1 := (List.pairwise_cons.1 hA).1
    have hB1 := (List.pairwise_cons.1 hB).1
    rw [mrg]
    by_cases h1 : a < b
    · have ih := Qa8 (k := k) (x := x) (List.pairwise_cons.1 hA).2 hB
      rw [if_pos h1, List.mem_append, ih]
      by_cases e : x = a
      · subst e
        have n1 : x ∉ A := fun h => by have := hA1 x h; omega
        have n2 : x ∉ b :: B := fun h => by
          rcases List.mem_cons.1 h with rfl | h
          · omega
          · have := hB1 x h; omega
        by_cases hk : k true false = true <;> simp [n1, n2, hk]
      · by_cases hk : k true false = true <;> simp [e, hk]
    · rw [if_neg h1]
      by_cases h2 : b < a
      · have ih := Qa8 (k := k) (x := x) hA (List.pairwise_cons.1 hB).2
        rw [if_pos h2, List.mem_append, ih]
        by_cases e : x = b
        · subst e
          have n1 : x ∉ B := fun h => by have := hB1 x h; omega
          have n2 : x ∉ a :: A := fun h => by
            rcases List.mem_cons.1 h with rfl | h
            · omega
            · have := hA1 x h; omega
          by_cases hk : k false true = true <;> simp [n1, n2, hk]
        · by_cases hk : k false true = true <;> simp [e, hk]
      · have e1 : a = b := by omega
        subst e1
        have ih := Qa8 (k := k) (x := x) (List.pairwise_cons.1 hA).2 (List.pairwise_cons.1 hB).2
        rw [if_neg h2, List.mem_append, ih]
        by_cases e : x = a
        · subst e
          have n1 : x ∉ A := fun h => by have := hA1 x h; omega
          have n2 : x ∉ B := fun h => by have := hB1 x h; omega
          by_cases hk : k true true = true <;> simp [n1, n2, hk]
        · by_cases hk : k true true = true <;> simp [e, hk]
termination_by A B => A.length + B.length
theorem QbL {k : Bool -> Bool -> Bool} : ∀ {A B : List Nat}, A.Pairwise (· < ·) -> B.Pairwise (· < ·) -> (mrg k A B).Pairwise (· < ·)
 | [], [], _, _ => by simp [mrg]
 | a :: A, [], hA, hB => by
  have ih := QbL (k := k) (List.pairwise_cons.1 hA).2 hB
  have h1 := (List.pairwise_cons.1 hA).1
  rw [mrg, List.pairwise_append]
  refine ⟨by split <;> simp, ih, fun x hx y hy => ?_⟩
  have hx : x = a := by split at hx <;> simp at hx; exact hx
  have := (Qa8 (List.pairwise_cons.1 hA).2 hB).1 hy
  subst hx
  rcases this.2 with h | h
  ·exact h1 y h
  ·cases h
 | [], b :: B, hA, hB => by
  have ih := QbL (k := k) hA (List.pairwise_cons.1 hB).2
  have h1 := (List.pairwise_cons.1 hB).1
  rw [mrg, List.pairwise_append]
  refine ⟨by split <;> simp, ih, fun x hx y hy => ?_⟩
  have hx : x = b := by split at hx <;> simp at hx; exact hx
  have := (Qa8 hA (List.pairwise_cons.1 hB).2).1 hy
  subst hx
  rcases this.2 with h | h
  ·cases h
  ·exact h1 y h
 | a :: A, b :: B, hA, hB => by
  have hA1 := (List.pairwise_cons.1 hA).1
  have hB1 := (List.pairwise_cons.1 hB).1
  rw [mrg]
  split
  ·rename_i h1
   rw [List.pairwise_append]
   refine ⟨by split <;> simp, QbL (List.pairwise_cons.1 hA).2 hB, fun x hx y hy => ?_⟩
   have hx : x = a := by split at hx <;> simp at hx; exact hx
   have := (Qa8 (List.pairwise_cons.1 hA).2 hB).1 hy
   subst hx
   rcases this.2 with h | h
   ·exact hA1 y h
   ·rcases List.mem_cons.1 h with rfl | h
    ·exact h1
    ·have := hB1 y h; omega
  ·rename_i h1
   split
   ·rename_i h2
    rw [List.pairwise_append]
    refine ⟨by split <;> simp, QbL hA (List.pairwise_cons.1 hB).2, fun x hx y hy => ?_⟩
    have hx : x = b := by split at hx <;> simp at hx; exact hx
    have := (Qa8 hA (List.pairwise_cons.1 hB).2).1 hy
    subst hx
    rcases this.2 with h | h
    ·rcases List.mem_cons.1 h with rfl | h
     ·exact h2
     ·have := hA1 y h; omega
    ·exact hB1 y h
   ·rename_i h2
    have e1 : a = b := by omega
    subst e1
    rw [List.pairwise_append]
    refine ⟨by split <;> simp, QbL (List.pairwise_cons.1 hA).2 (List.pairwise_cons.1 hB).2, fun x hx y hy => ?_⟩
    have hx : x = a := by split at hx <;> simp at hx; exact hx
    have := (Qa8 (List.pairwise_cons.1 hA).2 (List.pairwise_cons.1 hB).2).1 hy
    subst hx
    rcases this.2 with h | h
    ·exact hA1 y h
    ·exact hB1 y h
termination_by A B => A.length + B.length
end Go.AM.SO
namespace Go.AM.SO
open Go.Proofs Go.AM.SD Go.AM.SE
theorem iaddr0 {a : Nat} {A : List Nat} : aIAddr none 1 (sliN (a :: A)) (.int .i64 0) = some (.fptr (ints (nz (a :: A)))) := by
 simp [aIAddr]
theorem head0 {a : Nat} {A : List Nat} : (ints (nz (a :: A))).head? = some (.int .i64 (a : Int)) := rfl
theorem tk1 {b : Nat} {B1 : List Nat} : List.take (B1.length + 1 - 1) (List.drop 1 (ints (nz (b :: B1)))) = ints (nz B1) := by
 simp only [ints, nz, List.map_cons, List.drop_succ_cons, List.drop_zero]
 exact List.take_of_length_le (by simp)
theorem tk2 {b : Nat} {B1 : List Nat} : List.take B1.length (List.drop 1 (ints (nz (b :: B1)))) = ints (nz B1) := by
 simp only [ints, nz, List.map_cons, List.drop_succ_cons, List.drop_zero]
 exact List.take_of_length_le (by simp)
theorem union169 (a b : Bool) : PSpec Tryz.prog 169 [.bool a, .bool b] (.bool (a || b)) := by
  refine PSpec.Qar 64 ok169 rfl rfl rfl ?_
  cases a
  · simp (disch := first | omega | (simp only [lenW] <;> omega)) only [s169, wV, simprocAttr]
    exact ⟨.inr trivial, _, rfl, by simp [resOf, QaC]⟩
  · simp (disch := first | omega | (simp only [lenW] <;> omega)) only [s169, wV, simprocAttr]
    exact ⟨.inr trivial, _, rfl, by simp [resOf, QaC]⟩
theorem inter191 (a b : Bool) : PSpec Tryz.prog 191 [.bool a, .bool b] (.bool (a && b)) := by
  refine PSpec.Qar 64 ok191 rfl rfl rfl ?_
  cases a
  · simp (disch := first | omega | (simp only [lenW] <;> omega)) only [s191, wV, simprocAttr]
    exact ⟨.inr trivial, _, rfl, by simp [resOf, QaC]⟩
  · simp (disch := first | omega | (simp only [lenW] <;> omega)) only [s191, wV, simprocAttr]
    exact ⟨.inr trivial, _, rfl, by simp [resOf, QaC]⟩
theorem minus242 (a b : Bool) : PSpec Tryz.prog 242 [.bool a, .bool b] (.bool (a && !b)) := by
  refine PSpec.Qar 64 ok242 rfl rfl rfl ?_
  cases a
  · simp (disch := first | omega | (simp only [lenW] <;> omega)) only [s242, wV, simprocAttr]
    exact ⟨.inr trivial, _, rfl, by simp [resOf, QaC]⟩
  · simp (disch := first | omega | (simp only [lenW] <;> omega)) only [s242, wV, simprocAttr]
    exact ⟨.inr trivial, _, rfl, by simp [resOf, QaC]⟩
theorem merge168 (K : Nat) (k : Bool -> Bool -> Bool) (hk : ∀ a b, PSpec Tryz.prog K [.bool a, .bool b] (.bool (k a b))) (A B : List Nat) (hA : A.length <= 1000000) (hB : B.length <= 1000000) :
    PSpec Tryz.prog 168 [sliN A, sliN B, .fn K [] []] (sliN (mrg k A B)) := by
  refine PSpec.of_rn 64 ok168 rfl (by (try simp only [noRefs, Qaa, Qaf, Qad, Qag, Qae, noRef, Bool.and_self, Bool.and_true]) <;> rfl) (Qac _) ?_
  simp (disch := first | omega | (simp only [lenW] <;> omega)) only [s168, wV, simprocAttr]
  refine QaE 120 (fun t : List Nat × List Nat × List Nat => [(0, sliN t.1), (1, sliN t.2.1), (2, .fn K [] []), (7, .sl 50 0 0 t.2.2.length 1)]) (fun t => [(50, .cells 0 (ints (nz t.2.2)))]) (fun t => mrg k A B = t.2.2 ++ mrg k t.1 t.2.1 /\ t.1.length + t.2.1.length + t.2.2.length <= 2000000) (fun t => t.1.length + t.2.1.length) (A, B, []) ⟨[(50, .nil)], rfl, au0, au1, au2⟩ ⟨by simp, by simp; omega⟩ ?_
  rintro ⟨A', B', out⟩ ⟨hm, hl⟩
  dsimp only at hm hl
  rcases A' with _ | ⟨a, A1⟩ <;> rcases B' with _ | ⟨b, B1⟩
  · simp (disch := first | omega | (simp only [lenW] <;> omega)) only [List.length_nil, List.map_nil, wV, simprocAttr]
    refine ⟨.inr trivial, _, rfl, ?_⟩
    rw [hm, mrg, List.append_nil]
    exact Rn.fz0 rfl (by simp [ints]) (RnL.same (Qaa _))
  · have h1 : (0 : Int) < (B1.length : Int) + 1 := by omega
    have h2 : ¬ (B1.length : Int) + 1 = 0 := by omega
    simp only [List.length_nil, List.length_cons] at hl
    simp (disch := first | omega | (simp only [lenW] <;> omega)) only [List.length_nil, List.length_cons, h1, h2, iaddr0, tk1, tk2, head0, Nat.add_sub_cancel, wV, simprocAttr]
    refine cp (hk false true) ?_
    rw [mrg] at hm
    cases hkb : k false true
    · simp (disch := first | omega | (simp only [lenW] <;> omega)) only [wV, simprocAttr]
      rw [if_neg (by simp [hkb]), List.nil_append] at hm
      exact ⟨(([] : List Nat), (B1 : List Nat), out), by simp <;> omega, ⟨hm, by simp; omega⟩, ⟨[(50, .blk 50 0)], rfl, au0, au1, au2⟩⟩
    · simp (disch := first | omega | (simp only [lenW] <;> omega)) only [wV, simprocAttr]
      rw [if_pos hkb, <- List.append_assoc] at hm
      refine ⟨(([] : List Nat), (B1 : List Nat), out ++ [b]), by simp <;> omega, ⟨hm, by simp; omega⟩, ?_⟩
      rw [QaF, Qax, List.length_append]
      exact ⟨[(50, .blk 50 1)], rfl, au0, au1, au2⟩
  · have h1 : (0 : Int) < (A1.length : Int) + 1 := by omega
    have h2 : ¬ (A1.length : Int) + 1 = 0 := by omega
    simp only [List.length_nil, List.length_cons] at hl
    simp (disch := first | omega | (simp only [lenW] <;> omega)) only [List.length_nil, List.length_cons, h1, h2, iaddr0, tk1, tk2, head0, Nat.add_sub_cancel, wV, simprocAttr]
    refine cp (hk true false) ?_
    rw [mrg] at hm
    cases hkb : k true false
    · simp (disch := first | omega | (simp only [lenW] <;> omega)) only [wV, simprocAttr]
      rw [if_neg (by simp [hkb]), List.nil_append] at hm
      exact ⟨((A1 : List Nat), ([] : List Nat), out), by simp <;> omega, ⟨hm, by simp; omega⟩, ⟨[(50, .blk 50 0)], rfl, au0, au1, au2⟩⟩
    · simp (disch := first | omega | (simp only [lenW] <;> omega)) only [wV, simprocAttr]
      rw [if_pos hkb, <- List.append_assoc] at hm
      refine ⟨((A1 : List Nat), ([] : List Nat), out ++ [a]), by simp <;> omega, ⟨hm, by simp; omega⟩, ?_⟩
      rw [QaF, Qax, List.length_append]
      exact ⟨[(50, .blk 50 1)], rfl, au0, au1, au2⟩
  · have h1 : (0 : Int) < (A1.length : Int) + 1 := by omega
    have h2 : ¬ (A1.length : Int) + 1 = 0 := by omega
    have h3 : (0 : Int) < (B1.length : Int) + 1 := by omega
    have h4 : ¬ (B1.length : Int) + 1 = 0 := by omega
    by_cases hab : a < b
    · have h5 : (a : Int) <= (b : Int) := by omega
      have h6 : ¬ (b : Int) <= (a : Int) := by omega
      simp only [List.length_nil, List.length_cons] at hl
      simp (disch := first | omega | (simp only [lenW] <;> omega)) only [List.length_nil, List.length_cons, h1, h2, h3, h4, h5, h6, iaddr0, tk1, tk2, head0, Nat.add_sub_cancel, wV, simprocAttr]
      refine cp (hk true false) ?_
      rw [mrg, if_pos hab] at hm
      cases hkb : k true false
      · simp (disch := first | omega | (simp only [lenW] <;> omega)) only [wV, simprocAttr]
        rw [if_neg (by simp [hkb]), List.nil_append] at hm
        exact ⟨((A1 : List Nat), (b :: B1 : List Nat), out), by simp <;> omega, ⟨hm, by simp; omega⟩, ⟨[(50, .blk 50 0)], rfl, au0, au1, au2⟩⟩
      · simp (disch := first | omega | (simp only [lenW] <;> omega)) only [wV, simprocAttr]
        rw [if_pos hkb, <- List.append_assoc] at hm
        refine ⟨((A1 : List Nat), (b :: B1 : List Nat), out ++ [a]), by simp <;> omega, ⟨hm, by simp; omega⟩, ?_⟩
        rw [QaF, Qax, List.length_append]
        exact ⟨[(50, .blk 50 1)], rfl, au0, au1, au2⟩
    · by_cases hba : b < a
      · have h5 : ¬ (a : Int) <= (b : Int) := by omega
        have h6 : (b : Int) <= (a : Int) := by omega
        simp only [List.length_nil, List.length_cons] at hl
        simp (disch := first | omega | (simp only [lenW] <;> omega)) only [List.length_nil, List.length_cons, h1, h2, h3, h4, h5, h6, iaddr0, tk1, tk2, head0, Nat.add_sub_cancel, wV, simprocAttr]
        refine cp (hk false true) ?_
        rw [mrg, if_neg hab, if_pos hba] at hm
        cases hkb : k false true
        · simp (disch := first | omega | (simp only [lenW] <;> omega)) only [wV, simprocAttr]
          rw [if_neg (by simp [hkb]), List.nil_append] at hm
          exact ⟨((a :: A1 : List Nat), (B1 : List Nat), out), by simp <;> omega, ⟨hm, by simp; omega⟩, ⟨[(50, .blk 50 0)], rfl, au0, au1, au2⟩⟩
        · simp (disch := first | omega | (simp only [lenW] <;> omega)) only [wV, simprocAttr]
          rw [if_pos hkb, <- List.append_assoc] at hm
          refine ⟨((a :: A1 : List Nat), (B1 : List Nat), out ++ [b]), by simp <;> omega, ⟨hm, by simp; omega⟩, ?_⟩
          rw [QaF, Qax, List.length_append]
          exact ⟨[(50, .blk 50 1)], rfl, au0, au1, au2⟩
      · have e1 : a = b := by omega
        subst e1
        have h5 : (a : Int) <= (a : Int) := by omega
        simp only [List.length_nil, List.length_cons] at hl
        simp (disch := first | omega | (simp only [lenW] <;> omega)) only [List.length_nil, List.length_cons, h1, h2, h3, h4, h5, iaddr0, tk1, tk2, head0, Nat.add_sub_cancel, wV, simprocAttr]
        refine cp (hk true true) ?_
        rw [mrg, if_neg hab, if_neg hba] at hm
        cases hkb : k true true
        · simp (disch := first | omega | (simp only [lenW] <;> omega)) only [wV, simprocAttr]
          rw [if_neg (by simp [hkb]), List.nil_append] at hm
          exact ⟨((A1 : List Nat), (B1 : List Nat), out), by simp <;> omega, ⟨hm, by simp; omega⟩, ⟨[(50, .blk 50 0)], rfl, au0, au1, au2⟩⟩
        · simp (disch := first | omega | (simp only [lenW] <;> omega)) only [wV, simprocAttr]
          rw [if_pos hkb, <- List.append_assoc] at hm
          refine ⟨((A1 : List Nat), (B1 : List Nat), out ++ [a]), by simp <;> omega, ⟨hm, by simp; omega⟩, ?_⟩
          rw [QaF, Qax, List.length_append]
          exact ⟨[(50, .blk 50 1)], rfl, au0, au1, au2⟩
theorem union84 (A B : List Nat) (hA : A.length <= 1000000) (hB : B.length <= 1000000) : PSpec Tryz.prog 84 [sliN A, sliN B] (sliN (mrg (fun a b => a || b) A B)) := by
 refine PSpec.of_rn 64 ok84 rfl (by (try simp only [noRefs, Qaa, Qaf, Qad, Qag, Qae, noRef, Bool.and_self, Bool.and_true]) <;> rfl) (Qac _) ?_
 simp (disch := first | omega | (simp only [lenW] <;> omega)) only [s84, wV, simprocAttr]
 refine cp (merge168 169 _ union169 A B hA hB) ?_
 simp (disch := first | omega | (simp only [lenW] <;> omega)) only [wV, simprocAttr]
 exact ⟨.inr trivial, _, rfl, Rn.same (Qac _)⟩
theorem inter109 (A B : List Nat) (hA : A.length <= 1000000) (hB : B.length <= 1000000) : PSpec Tryz.prog 109 [sliN A, sliN B] (sliN (mrg (fun a b => a && b) A B)) := by
 refine PSpec.of_rn 64 ok109 rfl (by (try simp only [noRefs, Qaa, Qaf, Qad, Qag, Qae, noRef, Bool.and_self, Bool.and_true]) <;> rfl) (Qac _) ?_
 simp (disch := first | omega | (simp only [lenW] <;> omega)) only [s109, wV, simprocAttr]
 refine cp (merge168 191 _ inter191 A B hA hB) ?_
 simp (disch := first | omega | (simp only [lenW] <;> omega)) only [wV, simprocAttr]
 exact ⟨.inr trivial, _, rfl, Rn.same (Qac _)⟩
theorem minus219 (A B : List Nat) (hA : A.length <= 1000000) (hB : B.length <= 1000000) : PSpec Tryz.prog 219 [sliN A, sliN B] (sliN (mrg (fun a b => a && !b) A B)) := by
 refine PSpec.of_rn 64 ok219 rfl (by (try simp only [noRefs, Qaa, Qaf, Qad, Qag, Qae, noRef, Bool.and_self, Bool.and_true]) <;> rfl) (Qac _) ?_
 simp (disch := first | omega | (simp only [lenW] <;> omega)) only [s219, wV, simprocAttr]
 refine cp (merge168 242 _ minus242 A B hA hB) ?_
 simp (disch := first | omega | (simp only [lenW] <;> omega)) only [wV, simprocAttr]
 exact ⟨.inr trivial, _, rfl, Rn.same (Qac _)⟩
theorem subset167 (A B : List Nat) (hA : A.length <= 1000000) (hB : B.length <= 1000000) : PSpec Tryz.prog 167 [sliN A, sliN B] (.bool (decide ((mrg (fun a b => a && !b) A B).length = 0))) := by
  refine PSpec.Qar 64 ok167 rfl (by (try simp only [noRefs, Qaa, Qaf, Qad, Qag, Qae, noRef, Bool.and_self, Bool.and_true]) <;> rfl) rfl ?_
  simp (disch := first | omega | (simp only [lenW] <;> omega)) only [s167, wV, simprocAttr]
  refine cp (minus219 A B hA hB) ?_
  by_cases h : (mrg (fun a b => a && !b) A B).length = 0
  · have h' : (((mrg (fun a b => a && !b) A B).length : Nat) : Int) = 0 := by omega
    simp (disch := first | omega | (simp only [lenW] <;> omega)) only [h', wV, simprocAttr]
    exact ⟨.inr trivial, _, rfl, by simp [resOf, QaC, h]⟩
  · have h' : ¬ (((mrg (fun a b => a && !b) A B).length : Nat) : Int) = 0 := by omega
    simp (disch := first | omega | (simp only [lenW] <;> omega)) only [h', wV, simprocAttr]
    exact ⟨.inr trivial, _, rfl, by simp [resOf, QaC, h]⟩
end Go.AM.SO
namespace Go.AM.SD
theorem Qf6 {α : Type} (f : α -> Nat) : ∀ {l l' : List α}, l.Pairwise (fun a b => f a < f b) -> l'.Pairwise (fun a b => f a < f b) -> (∀ p, p ∈ l ↔ p ∈ l') -> l = l'
  | [], [], _, _, _ => rfl
  | [], y :: l', _, _, hm => absurd ((hm y).2 (by simp)) (by simp)
  | x :: l, [], _, _, hm => absurd ((hm x).1 (by simp)) (by simp)
  | x :: l, y :: l', h, h', hm => by
    rw [List.pairwise_cons] at h h'
    have hxy : x = y := by
      rcases List.mem_cons.1 ((hm x).1 (by simp)) with e | h1
      · exact e
      · rcases List.mem_cons.1 ((hm y).2 (by simp)) with e | h2
        · exact e.symm
        · have a := h'.1 x h1; have b := h.1 y h2; omega
    subst hxy
    have : l = l' := Qf6 f h.2 h'.2 fun p => by
      constructor
      · intro hp
        rcases List.mem_cons.1 ((hm p).1 (List.mem_cons_of_mem _ hp)) with e | h1
        · subst e; have := h.1 _ hp; omega
        · exact h1
      · intro hp
        rcases List.mem_cons.1 ((hm p).2 (List.mem_cons_of_mem _ hp)) with e | h1
        · subst e; have := h'.1 _ hp; omega
        · exact h1
    rw [this]
theorem uniqE {es : List Ed} (h : es.Pairwise fun x y => x.1 < y.1 \/ (x.1 = y.1 /\ x.2.1 < y.2.1)) {e e' : Ed} (he : e ∈ es) (he' : e' ∈ es) (h1 : e.1 = e'.1) (h2 : e.2.1 = e'.2.1) : e = e' := by
 induction h with
 | nil => cases he
 | cons hx _ ih =>
  rcases List.mem_cons.1 he with rfl | m1 <;> rcases List.mem_cons.1 he' with rfl | m2
  ·rfl
  ·have := hx _ m2; omega
  ·have := hx _ m1; omega
  ·exact ih m1 m2
theorem Qhk {es : List Ed} (h : es.Pairwise fun x y => x.1 < y.1 \/ (x.1 = y.1 /\ x.2.1 < y.2.1)) {v ev to : Nat} : stepA es v ev = some to ↔ ((v, ev, to) : Ed) ∈ es := by
 unfold stepA
 constructor
 ·intro hs
  cases hf : es.find? fun e => e.1 == v && e.2.1 == ev with
  | none => rw [hf] at hs; cases hs
  | some e =>
   rw [hf] at hs; cases hs
   have h1 := List.find?_some hf
   simp only [Bool.and_eq_true, beq_iff_eq] at h1
   have h2 := List.mem_of_find?_eq_some hf
   obtain ⟨a, b, c⟩ := e
   obtain ⟨rfl, rfl⟩ := h1
   exact h2
 ·intro hm
  cases hf : es.find? fun e => e.1 == v && e.2.1 == ev with
  | none =>
   rw [List.find?_eq_none] at hf
   exact absurd (by simp) (hf _ hm)
  | some e =>
   have h1 := List.find?_some hf
   simp only [Bool.and_eq_true, beq_iff_eq] at h1
   rw [uniqE h (List.mem_of_find?_eq_some hf) hm h1.1 h1.2]; rfl
theorem QjZ {a : Aut} (h : WfA a) (v : Nat) : sOut a.es (fun _ => true) v = a.al.filterMap fun ev => (stepA a.es v ev).map fun to => ((v, ev, to) : Ed) := by
 refine Qf6 (fun e : Ed => e.2.1) ?_ ?_ fun e => ?_
 ·have h1 : (sOut a.es (fun _ => true) v).Pairwise fun x y => x.1 < y.1 \/ (x.1 = y.1 /\ x.2.1 < y.2.1) := h.es.filter _
  refine h1.imp_of_mem fun {x y} hx hy hr => ?_
  have h2 := (QaM.1 hx).2.1
  have h3 := (QaM.1 hy).2.1
  omega
 ·refine List.Pairwise.filterMap _ (R := (· < ·)) ?_ h.al
  intro x y hxy p hp q hq
  cases hs : stepA a.es v x with
  | none => rw [hs] at hp; cases hp
  | some to =>
   cases hs2 : stepA a.es v y with
   | none => rw [hs2] at hq; cases hq
   | some to2 => rw [hs] at hp; rw [hs2] at hq; cases hp; cases hq; exact hxy
 ·rw [QaM, List.mem_filterMap]
  constructor
  ·rintro ⟨he, rfl, _⟩
   obtain ⟨x, y, z⟩ := e
   exact ⟨y, h.ev _ he, by rw [(Qhk h.es).2 he]; rfl⟩
  ·rintro ⟨ev, hev, hm⟩
   cases hs : stepA a.es v ev with
   | none => rw [hs] at hm; cases hm
   | some to => rw [hs] at hm; cases hm; exact ⟨(Qhk h.es).1 hs, rfl, rfl⟩
theorem Qmz {a : Aut} (h : WfA a) (i v : Nat) (s : OE) : (sRow a.es (fun _ => true) i v s).1 = fRow a.al a.es v s.1 := by
 unfold sRow fRow
 rw [QjZ h]
 have key : ∀ (al : List Nat) (s : OE), ((al.filterMap fun ev => (stepA a.es v ev).map fun to => ((v, ev, to) : Ed)).foldl (sEd i) s).1 = al.foldl (fEv a.es v) s.1 := by
  intro al
  induction al with
  | nil => intro s; rfl
  | cons ev al ih =>
   intro s
   rw [List.filterMap_cons, List.foldl_cons]
   cases hs : stepA a.es v ev with
   | none =>
    have e : fEv a.es v s.1 ev = s.1 := by unfold fEv; rw [hs]
    rw [e]; exact ih s
   | some to =>
    have e : fEv a.es v s.1 ev = if s.1.contains to then s.1 else s.1 ++ [to] := by unfold fEv; rw [hs]
    dsimp only [Option.map_some]
    rw [List.foldl_cons, ih, e]
    congr 1
    unfold sEd
    split <;> rfl
 exact key a.al s
theorem QlJ {a : Aut} (h : WfA a) : ∀ (k i : Nat) (s : OE), (sQ a.es (fun _ => true) k i s).1 = fQ a.al a.es k i s.1
 | 0, _, _ => rfl
 | k + 1, i, s => by
  unfold sQ fQ
  cases s.1[i]? with
  | none => rfl
  | some v => dsimp only; rw [QlJ h k, Qmz h]
theorem QmA {a : Aut} (h : WfA a) : (sAll a fun _ => true).1 = found a := by
 unfold sAll found
 rw [QlJ h]
 by_cases h0 : 0 < a.n
 ·rw [if_pos (by simp [h0]), if_pos h0]
 ·rw [if_neg (by simp [h0]), if_neg h0]
theorem Qje {a : Aut} (h : WfA a) : canon a = restr a (fun _ => true) := by
 have hs := (Qez (left := fun _ => true) h).1
 have hf := QmA h
 have he : (sAll a fun _ => true).2 = cRows a (found a) := by
  rw [hs.ed, hf]
  unfold cRows
  rw [List.flatMap_def, List.flatMap_def]
  congr 1
  refine List.map_congr_left fun i _ => ?_
  rw [QjZ h]
  unfold cRow
  rw [List.map_filterMap]
  congr 1
  funext ev
  rw [Option.map_map]; rfl
 unfold canon restr
 rw [he, hf]
end Go.AM.SD
namespace Go.AM.SE
open Go.Proofs Go.AM.SD
theorem shr1 {i j : Nat} : aBin .shr (.int .u64 ((i : Int) + (j : Int))) (.int .u64 1) = some (.int .u64 (((i + j) / 2 : Nat) : Int)) := by
 have h : (((i : Int) + (j : Int)).fdiv (2 ^ (min (1 : Int).toNat 64))) = (((i + j) / 2 : Nat) : Int) := by
  rw [show min (1 : Int).toNat 64 = 1 from rfl, Int.fdiv_eq_ediv_of_nonneg _ (by decide)]; omega
 show (if (1 : Int) < 0 then none else some (AV.int .u64 (((i : Int) + (j : Int)).fdiv (2 ^ (min (1 : Int).toNat 64))))) = _
 rw [if_neg (by decide), h]
def lbN (l : List Nat) (t : Nat) : Nat := l.countP fun x => decide (x < t)
theorem lb_eq : ∀ {l : List Nat} {t i : Nat}, i <= l.length -> (∀ j, j < i -> l.getD j 0 < t) -> (∀ j, i <= j -> j < l.length -> ¬ l.getD j 0 < t) -> lbN l t = i
 | [], t, i, hi, _, _ => by simp at hi; subst hi; rfl
 | x :: l, t, 0, _, _, h2 => by
  unfold lbN
  rw [List.countP_eq_zero]
  intro y hy
  obtain ⟨q, hq, hql⟩ := Qdz hy
  have := h2 q (Nat.zero_le _) hql
  rw [List.getD_eq_getElem?_getD, hq] at this
  simpa using this
 | x :: l, t, i + 1, hi, h1, h2 => by
  have hx : x < t := by have := h1 0 (by omega); simpa using this
  have := lb_eq (l := l) (t := t) (i := i) (by simpa using hi) (fun j hj => by have := h1 (j + 1) (by omega); simpa using this) (fun j hj hl => by have := h2 (j + 1) (by omega) (by simpa using hl); simpa using this)
  unfold lbN at this ⊢
  rw [List.countP_cons, this, if_pos (by simpa using hx)]
theorem lb_le {l : List Nat} {t : Nat} : lbN l t <= l.length := List.countP_le_length
theorem Qcq {l : List Nat} (h : l.Pairwise (· <= ·)) {p q : Nat} (hpq : p <= q) (hq : q < l.length) : l.getD p 0 <= l.getD q 0 := by
 rw [List.getD_eq_getElem?_getD, List.getD_eq_getElem?_getD, List.getElem?_eq_getElem (by omega), List.getElem?_eq_getElem hq]
 rcases Nat.lt_or_eq_of_le hpq with h1 | h1
 ·exact List.pairwise_iff_getElem.1 h p q (by omega) hq h1
 ·subst h1; exact Nat.le_refl _
theorem QiG {l : List Nat} (h : l.Pairwise (· <= ·)) {t i : Nat} (h1 : ∀ j, j < i -> l.getD j 0 < t) (h2 : ∀ j, i <= j -> j < l.length -> ¬ l.getD j 0 < t) : l.contains t = decide (i < l.length /\ l.getD i 0 = t) := by
 rw [Bool.eq_iff_iff, decide_eq_true_iff, List.contains_iff_mem]
 constructor
 ·intro hm
  obtain ⟨q, hq, hql⟩ := Qdz hm
  have hqd : l.getD q 0 = t := by rw [List.getD_eq_getElem?_getD, hq]; rfl
  have hiq : i <= q := by
   refine Nat.le_of_not_lt fun h3 => ?_
   have := h1 q h3; omega
  have h4 := Qcq h hiq hql
  have h5 := h2 i (Nat.le_refl _) (by omega)
  exact ⟨by omega, by omega⟩
 ·rintro ⟨hi, e⟩
  rw [<- e, List.getD_eq_getElem?_getD, List.getElem?_eq_getElem hi]
  exact List.getElem_mem hi
theorem nan81 (x : Int) : PSpec Tryz.prog 227 [.int .i64 x] (.bool false) := by
 refine PSpec.Qar 64 ok227 rfl (by (try simp only [noRefs, Qaq, Qaj, Qan, Qaa, Qaf, Qad, Qag, Qas, Qae, noRef, Bool.and_self, Bool.and_true]) <;> rfl) rfl ?_
 simp (disch := first | omega | (simp only [lenW] <;> omega)) only [s227, wW, wV, simprocAttr]
 exact ⟨.inr trivial, _, rfl, rfl⟩
theorem nan66 (x : Int) : PSpec Tryz.prog 198 [.int .i64 x] (.bool false) := by
 refine PSpec.Qar 64 ok198 rfl (by (try simp only [noRefs, Qaq, Qaj, Qan, Qaa, Qaf, Qad, Qag, Qas, Qae, noRef, Bool.and_self, Bool.and_true]) <;> rfl) rfl ?_
 simp (disch := first | omega | (simp only [lenW] <;> omega)) only [s198, wW, wV, simprocAttr]
 exact ⟨.inr trivial, _, rfl, rfl⟩
theorem less65 (x y : Int) : PSpec Tryz.prog 197 [.int .i64 x, .int .i64 y] (.bool (decide (x < y))) := by
 refine PSpec.Qar 64 ok197 rfl (by (try simp only [noRefs, Qaq, Qaj, Qan, Qaa, Qaf, Qad, Qag, Qas, Qae, noRef, Bool.and_self, Bool.and_true]) <;> rfl) rfl ?_
 simp (disch := first | omega | (simp only [lenW] <;> omega)) only [s197, wW, wV, simprocAttr]
 refine cp (nan81 x) ?_
 simp (disch := first | omega | (simp only [lenW] <;> omega)) only [wW, wV, simprocAttr]
 exact ⟨.inr trivial, _, rfl, rfl⟩
theorem find57 (l : List Nat) (t : Nat) (hs : l.Pairwise (· <= ·)) (hl : l.length <= 1000000) : PSpec Tryz.prog 144 [sliN l, .int .i64 (t : Int)] (.tup [.int .i64 (lbN l t : Int), .bool (l.contains t)]) := by
  refine PSpec.Qar 64 ok144 rfl (by (try simp only [noRefs, Qaq, Qaj, Qan, Qaa, Qaf, Qad, Qag, Qas, Qae, noRef, Bool.and_self, Bool.and_true]) <;> rfl) rfl ?_
  simp (disch := first | omega | (simp only [lenW] <;> omega)) only [s144, wW, wV, simprocAttr]
  refine Qav 100 (fun p : Nat × Nat => [(0, sliN l), (1, .int .i64 (t : Int)), (6, .int .i64 l.length), (7, .int .i64 p.1), (8, .int .i64 p.2)]) (fun _ => [])
    (fun p => p.1 <= p.2 /\ p.2 <= l.length /\ (∀ q, q < p.1 -> l.getD q 0 < t) /\ ∀ q, p.2 <= q -> q < l.length -> ¬ l.getD q 0 < t) (fun p => p.2 - p.1) (0, l.length) 0 140
    (fun i : Nat => [(0, sliN l), (1, .int .i64 (t : Int)), (6, .int .i64 l.length), (7, .int .i64 i)]) (fun _ => [])
    (fun i => i <= l.length /\ (∀ q, q < i -> l.getD q 0 < t) /\ ∀ q, i <= q -> q < l.length -> ¬ l.getD q 0 < t) ?_ ⟨Nat.zero_le _, Nat.le_refl _, fun q hq => absurd hq (Nat.not_lt_zero _), fun q h1 h2 => by omega⟩ ?_ ?_
  · exact ⟨[], rfl, au0, au9, au10⟩
  · rintro ⟨i, j⟩ ⟨hij, hj, h1, h2⟩
    dsimp only at hij hj h1 h2 ⊢
    by_cases hlt : i < j
    · obtain ⟨k, hk, hk1, hk2⟩ : ∃ k : Nat, aBin .shr (.int .u64 ((i : Int) + (j : Int))) (.int .u64 1) = some (.int .u64 (k : Int)) /\ i <= k /\ k < j := ⟨(i + j) / 2, shr1, by omega, by omega⟩
      have hkl : k < l.length := by omega
      have hkx : l[k]? = some (l.getD k 0) := by rw [List.getElem?_eq_getElem hkl]; simp [hkl]
      simp (disch := first | omega | (simp only [lenW] <;> omega)) only [hlt, hk, hkl, QaJ hkx, wW, wV, simprocAttr]
      refine cp (less65 _ _) ?_
      by_cases hc : l.getD k 0 < t
      · rw [decide_eq_true (by omega)]
        simp (disch := first | omega | (simp only [lenW] <;> omega)) only [wW, wV, simprocAttr]
        refine ⟨(k + 1, j), by dsimp only; omega, ⟨by dsimp only; omega, hj, fun q hq => ?_, h2⟩, ⟨[], rfl, au0, au9, au10⟩⟩
        have := Qcq hs (p := q) (q := k) (by dsimp only at hq; omega) hkl
        omega
      · rw [decide_eq_false (by omega)]
        simp (disch := first | omega | (simp only [lenW] <;> omega)) only [wW, wV, simprocAttr]
        refine ⟨(i, k), by dsimp only; omega, ⟨hk1, by dsimp only; omega, h1, fun q hq hql => ?_⟩, ⟨[], rfl, au0, au9, au10⟩⟩
        have := Qcq hs (p := k) (q := q) hq hql
        omega
    · have e : i = j := by omega
      subst e
      simp (disch := first | omega | (simp only [lenW] <;> omega)) only [hlt, wW, wV, simprocAttr]
      exact ⟨i, ⟨hj, h1, h2⟩, ⟨[], rfl, au0, au9, au10⟩⟩
  rintro i ⟨hi, h1, h2⟩
  rw [lb_eq hi h1 h2, QiG hs h1 h2]
  by_cases hlt : i < l.length
  · have hx : l[i]? = some (l.getD i 0) := by rw [List.getElem?_eq_getElem hlt]; simp [hlt]
    by_cases he : l.getD i 0 = t
    · rw [decide_eq_true ⟨hlt, he⟩]
      rw [he] at hx
      simp (disch := first | omega | (simp only [lenW] <;> omega)) only [hlt, QaJ hx, wW, wV, simprocAttr]
      exact ⟨.inr trivial, _, rfl, rfl⟩
    · rw [decide_eq_false fun h => he h.2]
      generalize l.getD i 0 = y at *
      have he' : ¬ (y : Int) = (t : Int) := by omega
      simp (disch := first | omega | (simp only [lenW] <;> omega)) only [hlt, QaJ hx, he', wW, wV, simprocAttr]
      refine cp (nan66 _) ?_
      simp (disch := first | omega | (simp only [lenW] <;> omega)) only [wW, wV, simprocAttr]
      exact ⟨.inr trivial, _, rfl, rfl⟩
  · rw [decide_eq_false fun h => hlt h.1]
    simp (disch := first | omega | (simp only [lenW] <;> omega)) only [hlt, wW, wV, simprocAttr]
    exact ⟨.inr trivial, _, rfl, rfl⟩
end Go.AM.SE
namespace Go.AM.SE
open Go.Proofs Go.AM.SD
abbrev edV (e : Ed) : AV := .agg [.int .i64 (e.1 : Int), .int .i64 (e.2.1 : Int), .int .i64 (e.2.2 : Int)]
theorem QlK (x y : Ed) : aEq (.flat true [.i, .i, .i]) true (edV x) (edV y) = some (.bool (!decide (x = y))) := by
 have : ∀ n m : Nat, decide ((n : Int) = (m : Int)) = decide (n = m) := fun n m => decide_eq_decide.2 (by omega)
 obtain ⟨a, b, c⟩ := x
 obtain ⟨a', b', c'⟩ := y
 simp only [aEq, eqCells, eqCell, if_true]
 simp only [Prod.mk.injEq, Bool.decide_and, this]
 cases decide (a = a') <;> cases decide (b = b') <;> cases decide (c = c') <;> rfl
theorem eq41 (a b : List Int) (hl : b.length <= 1000000) : PSpec Tryz.prog 31 [sli a, sli b] (.bool (decide (a = b))) := by
  refine PSpec.Qar 64 ok31 rfl (by (try simp only [noRefs, Qaq, Qaj, Qan, Qaa, Qaf, Qad, Qag, Qas, Qae, noRef, Bool.and_self, Bool.and_true]) <;> rfl) rfl ?_
  by_cases hab : a.length = b.length
  · simp (disch := first | omega | (simp only [lenW] <;> omega)) only [s31, hab, wW, wV, simprocAttr]
    refine QaE 100 (fun i : Nat => [(0, sli a), (1, sli b), (12, .int .i64 b.length), (13, .int .i64 i)]) (fun _ => []) (fun i => i <= b.length /\ ∀ j, j < i -> a[j]? = b[j]?) (fun i => b.length - i) 0 ⟨[], rfl, au0, au9, au10⟩ ⟨Nat.zero_le _, fun j hj => absurd hj (Nat.not_lt_zero _)⟩ ?_
    rintro i ⟨hi, hb⟩
    by_cases hlt : i < b.length
    · obtain ⟨x, hx⟩ := Qap (l := a) (i := i) (by omega)
      obtain ⟨y, hy⟩ := Qap (l := b) (i := i) (by omega)
      have hlt2 : i < a.length := by omega
      by_cases h0 : x = y
      · have hq : True := by trivial
        simp (disch := first | omega | (simp only [lenW] <;> omega)) only [hlt, hlt2, QaT hx, QaT hy, h0, hq, wW, wV, simprocAttr]
        refine ⟨i + 1, by omega, ⟨by omega, fun j hj => ?_⟩, ⟨[], rfl, au0, au9, au10⟩⟩
        by_cases e : j = i
        · subst e; rw [hx, hy, h0]
        · exact hb j (by omega)
      · have hq : True := by trivial
        simp (disch := first | omega | (simp only [lenW] <;> omega)) only [hlt, hlt2, QaT hx, QaT hy, h0, hq, wW, wV, simprocAttr]
        refine ⟨.inr trivial, _, rfl, ?_⟩
        have : a ≠ b := fun e => by subst e; rw [hx] at hy; cases hy; exact h0 rfl
        simp [resOf, QaC, this]
    · have : a = b := List.ext_getElem? fun j => by
        by_cases hj : j < i
        · exact hb j hj
        · rw [List.getElem?_eq_none (by omega), List.getElem?_eq_none (by omega)]
      simp (disch := first | omega | (simp only [lenW] <;> omega)) only [hlt, wW, wV, simprocAttr]
      exact ⟨.inr trivial, _, rfl, by simp [resOf, QaC, this]⟩
  · simp (disch := first | omega | (simp only [lenW] <;> omega)) only [s31, hab, wW, wV, simprocAttr]
    have : a ≠ b := fun e => hab (by rw [e])
    exact ⟨.inr trivial, _, rfl, by simp [resOf, QaC, this]⟩
theorem eq55 (a b : List Ed) (hl : b.length <= 10000000) : PSpec Tryz.prog 106 [egsN a, egsN b] (.bool (decide (a = b))) := by
  refine PSpec.Qar 64 ok106 rfl (by (try simp only [noRefs, Qaq, Qaj, Qan, Qaa, Qaf, Qad, Qag, Qas, Qae, noRef, Bool.and_self, Bool.and_true]) <;> rfl) rfl ?_
  by_cases hab : a.length = b.length
  · simp (disch := first | omega | (simp only [lenW] <;> omega)) only [s106, hab, wW, wV, simprocAttr]
    refine QaE 100 (fun i : Nat => [(0, egsN a), (1, egsN b), (12, .int .i64 b.length), (13, .int .i64 i)]) (fun _ => []) (fun i => i <= b.length /\ ∀ j, j < i -> a[j]? = b[j]?) (fun i => b.length - i) 0 ⟨[], rfl, au0, au9, au10⟩ ⟨Nat.zero_le _, fun j hj => absurd hj (Nat.not_lt_zero _)⟩ ?_
    rintro i ⟨hi, hb⟩
    by_cases hlt : i < b.length
    · obtain ⟨x, hx⟩ := Qap (l := a) (i := i) (by omega)
      obtain ⟨y, hy⟩ := Qap (l := b) (i := i) (by omega)
      have hlt2 : i < a.length := by omega
      by_cases h0 : x = y
      · have hq : aEq (.flat true [.i, .i, .i]) true (edV y) (edV y) = some (.bool false) := by rw [QlK]; simp
        simp (disch := first | omega | (simp only [lenW] <;> omega)) only [hlt, hlt2, QaO hx, QaO hy, h0, hq, wW, wV, simprocAttr]
        refine ⟨i + 1, by omega, ⟨by omega, fun j hj => ?_⟩, ⟨[], rfl, au0, au9, au10⟩⟩
        by_cases e : j = i
        · subst e; rw [hx, hy, h0]
        · exact hb j (by omega)
      · have hq : aEq (.flat true [.i, .i, .i]) true (edV x) (edV y) = some (.bool true) := by rw [QlK]; simp [h0]
        simp (disch := first | omega | (simp only [lenW] <;> omega)) only [hlt, hlt2, QaO hx, QaO hy, h0, hq, wW, wV, simprocAttr]
        refine ⟨.inr trivial, _, rfl, ?_⟩
        have : a ≠ b := fun e => by subst e; rw [hx] at hy; cases hy; exact h0 rfl
        simp [resOf, QaC, this]
    · have : a = b := List.ext_getElem? fun j => by
        by_cases hj : j < i
        · exact hb j hj
        · rw [List.getElem?_eq_none (by omega), List.getElem?_eq_none (by omega)]
      simp (disch := first | omega | (simp only [lenW] <;> omega)) only [hlt, wW, wV, simprocAttr]
      exact ⟨.inr trivial, _, rfl, by simp [resOf, QaC, this]⟩
  · simp (disch := first | omega | (simp only [lenW] <;> omega)) only [s106, hab, wW, wV, simprocAttr]
    have : a ≠ b := fun e => hab (by rw [e])
    exact ⟨.inr trivial, _, rfl, by simp [resOf, QaC, this]⟩
theorem QnE {a b : List Nat} : decide (nz a = nz b) = decide (a = b) := by
  refine decide_eq_decide.2 ⟨fun h => ?_, fun h => by rw [h]⟩
  have : ∀ a b : List Nat, nz a = nz b -> a = b := by
    intro a
    induction a with
    | nil => intro b h; cases b with
      | nil => rfl
      | cons => simp at h
    | cons x a ih => intro b h; cases b with
      | nil => simp at h
      | cons y b =>
        simp only [nz, List.map_cons, List.cons.injEq] at h
        rw [ih b h.2, show x = y by omega]
  exact this a b h
theorem eq41N (a b : List Nat) (hl : b.length <= 1000000) : PSpec Tryz.prog 31 [sliN a, sliN b] (.bool (decide (a = b))) := by
 have := eq41 (nz a) (nz b) (by simpa using hl)
 rw [QbF, QbF, QnE] at this; exact this
def autB (x y : Aut) : Bool := decide (x.n = y.n) && (decide (x.al = y.al) && (decide (x.ms = y.ms) && decide (x.es = y.es)))
structure AOk (r : Aut) : Prop where
 al : r.al.length <= 1000000
 ms : r.ms.length <= 1000000
 es : r.es.length <= 10000000
theorem eq43 (x y : Aut) (hx : AOk x) (hy : AOk y) : PSpec Tryz.prog 33 [aV x, aV y] (.bool (autB x y)) := by
 refine PSpec.Qar 64 ok33 rfl (by (try simp only [noRefs, Qaq, Qaj, Qan, Qaa, Qaf, Qad, Qag, Qas, Qae, noRef, Bool.and_self, Bool.and_true]) <;> rfl) rfl ?_
 have c1 := eq41N x.al y.al hy.al
 have c2 := eq41N x.ms y.ms hy.ms
 have c3 := eq55 x.es y.es hy.es
 unfold autB
 by_cases h1 : x.n = y.n
 ·rw [decide_eq_true h1, Bool.true_and]
  generalize decide (x.al = y.al) = b1 at *
  generalize decide (x.ms = y.ms) = b2 at *
  generalize decide (x.es = y.es) = b3 at *
  simp (disch := first | omega | (simp only [lenW] <;> omega)) only [s33, h1, wW, wV, simprocAttr]
  refine cp c1 ?_
  cases b1 with
  | false =>
   simp (disch := first | omega | (simp only [lenW] <;> omega)) only [wW, wV, simprocAttr]
   exact ⟨.inr trivial, _, rfl, rfl⟩
  | true =>
   simp (disch := first | omega | (simp only [lenW] <;> omega)) only [wW, wV, simprocAttr]
   refine cp c2 ?_
   cases b2 with
   | false =>
    simp (disch := first | omega | (simp only [lenW] <;> omega)) only [wW, wV, simprocAttr]
    exact ⟨.inr trivial, _, rfl, rfl⟩
   | true =>
    simp (disch := first | omega | (simp only [lenW] <;> omega)) only [wW, wV, simprocAttr]
    refine cp c3 ?_
    simp (disch := first | omega | (simp only [lenW] <;> omega)) only [wW, wV, simprocAttr]
    exact ⟨.inr trivial, _, rfl, rfl⟩
 ·rw [decide_eq_false h1, Bool.false_and]
  simp (disch := first | omega | (simp only [lenW] <;> omega)) only [s33, h1, wW, wV, simprocAttr]
  exact ⟨.inr trivial, _, rfl, rfl⟩
theorem QlL (x : Aut) : autB x x = true := by simp [autB]
end Go.AM.SE
namespace Go.AM.SE
open Go.Proofs Go.AM.SD
abbrev froms (es : List Ed) : List Nat := es.map (·.1)
theorem Qhl : ∀ (l : List Ed) (i : Nat), (l.flatMap edC).drop (i * 3) = (l.drop i).flatMap edC
 | l, 0 => by simp
 | [], i + 1 => by simp
 | e :: l, i + 1 => by
  rw [List.flatMap_cons, Nat.succ_mul, List.drop_succ_cons]
  show List.drop (i * 3 + 3) (_ :: _ :: _ :: l.flatMap edC) = _
  rw [List.drop_succ_cons, List.drop_succ_cons, List.drop_succ_cons]
  exact Qhl l i
theorem Qhm : ∀ (l : List Ed) (i : Nat), (l.flatMap edC).take (i * 3) = (l.take i).flatMap edC
 | l, 0 => by simp
 | [], i + 1 => by simp
 | e :: l, i + 1 => by
  rw [List.flatMap_cons, Nat.succ_mul, List.take_succ_cons, List.flatMap_cons]
  show List.take (i * 3 + 3) (_ :: _ :: _ :: l.flatMap edC) = _
  rw [List.take_succ_cons, List.take_succ_cons, List.take_succ_cons, Qhm l i]; rfl
theorem Qj0 {x t : Nat} {l : List Nat} : lbN (x :: l) t = lbN l t + if x < t then 1 else 0 := by
 unfold lbN; rw [List.countP_cons]; simp
theorem Qgn {l : List Nat} {t : Nat} (h : ∀ x ∈ l, t <= x) : lbN l t = 0 := by
 unfold lbN
 rw [List.countP_eq_zero]
 intro x hx; have := h x hx; simp; omega
theorem QlM : ∀ {es : List Ed}, es.Pairwise (fun a b => a.1 <= b.1) -> ∀ v : Nat, (es.drop (lbN (froms es) v)).take (lbN (froms es) (v + 1) - lbN (froms es) v) = sOut es (fun _ => true) v
 | [], _, _ => by simp [sOut]
 | e :: es, h, v => by
  rw [List.pairwise_cons] at h
  have ih := QlM h.2 v
  have ef : froms (e :: es) = e.1 :: froms es := rfl
  have so : sOut (e :: es) (fun _ => true) v = if e.1 = v then e :: sOut es (fun _ => true) v else sOut es (fun _ => true) v := by
   unfold sOut; rw [List.filter_cons]; simp
  rw [ef, Qj0, Qj0, so]
  rcases Nat.lt_trichotomy e.1 v with h1 | h1 | h1
  ·rw [if_pos h1, if_pos (by omega), if_neg (by omega), List.drop_succ_cons, Nat.add_sub_add_right, ih]
  ·have hz : lbN (froms es) v = 0 := Qgn fun x hx => by
    obtain ⟨y, hy, rfl⟩ := List.mem_map.1 hx
    have := h.1 y hy; omega
   rw [hz] at ih ⊢
   have i1 : ¬ e.1 < v := by omega
   have i2 : e.1 < v + 1 := by omega
   simp only [if_neg i1, if_pos i2, if_pos h1, Nat.add_zero, List.drop_zero, Nat.sub_zero, List.take_succ_cons]
   rw [List.drop_zero, Nat.sub_zero] at ih
   rw [ih]
  ·have hz : lbN (froms es) v = 0 := Qgn fun x hx => by
    obtain ⟨y, hy, rfl⟩ := List.mem_map.1 hx
    have := h.1 y hy; omega
   have hz2 : lbN (froms es) (v + 1) = 0 := Qgn fun x hx => by
    obtain ⟨y, hy, rfl⟩ := List.mem_map.1 hx
    have := h.1 y hy; omega
   rw [hz, hz2] at ih ⊢
   rw [if_neg (by omega), if_neg (by omega), if_neg (by omega)]
   simpa using ih
theorem sub229 (e : Ed) (t : Nat) (he : e.1 <= 1000000) (ht : t <= 1000000) : PSpec Tryz.prog 229 [edV e, .int .i64 (t : Int)] (.int .i64 ((e.1 : Int) - (t : Int))) := by
 refine PSpec.Qar 64 ok229 rfl (by (try simp only [noRefs, Qaq, Qaj, Qan, Qaa, Qaf, Qad, Qag, Qas, Qae, noRef, Bool.and_self, Bool.and_true]) <;> rfl) rfl ?_
 simp (disch := first | omega | (simp only [lenW] <;> omega)) only [s229, wW, wV, simprocAttr]
 exact ⟨.inr trivial, _, rfl, rfl⟩
theorem sub230 (e : Ed) (t : Nat) (he : e.1 <= 1000000) (ht : t <= 1000000) : PSpec Tryz.prog 230 [edV e, .int .i64 (t : Int)] (.int .i64 ((e.1 : Int) - (t : Int))) := by
 refine PSpec.Qar 64 ok230 rfl (by (try simp only [noRefs, Qaq, Qaj, Qan, Qaa, Qaf, Qad, Qag, Qas, Qae, noRef, Bool.and_self, Bool.and_true]) <;> rfl) rfl ?_
 simp (disch := first | omega | (simp only [lenW] <;> omega)) only [s230, wW, wV, simprocAttr]
 exact ⟨.inr trivial, _, rfl, rfl⟩
theorem find67 (es : List Ed) (t : Nat) (hs : (froms es).Pairwise (· <= ·)) (hb : ∀ e ∈ es, e.1 <= 1000000) (ht : t <= 1000000) (hl : es.length <= 1000000) : PSpec Tryz.prog 228 [egsN es, .int .i64 (t : Int), .fn 229 [] []] (.tup [.int .i64 (lbN (froms es) t : Int), .bool ((froms es).contains t)]) := by
  refine PSpec.Qar 64 ok228 rfl (by (try simp only [noRefs, Qaq, Qaj, Qan, Qaa, Qaf, Qad, Qag, Qas, Qae, noRef, Bool.and_self, Bool.and_true]) <;> rfl) rfl ?_
  have hfl : (froms es).length = es.length := by simp
  simp (disch := first | omega | (simp only [lenW] <;> omega)) only [s228, wW, wV, simprocAttr]
  refine Qav 100 (fun p : Nat × Nat => [(0, egsN es), (1, .int .i64 (t : Int)), (2, .fn 229 [] []), (8, .int .i64 es.length), (9, .int .i64 p.1), (10, .int .i64 p.2)]) (fun _ => [])
    (fun p => p.1 <= p.2 /\ p.2 <= es.length /\ (∀ q, q < p.1 -> (froms es).getD q 0 < t) /\ ∀ q, p.2 <= q -> q < es.length -> ¬ (froms es).getD q 0 < t) (fun p => p.2 - p.1) (0, es.length) 0 140
    (fun i : Nat => [(0, egsN es), (1, .int .i64 (t : Int)), (2, .fn 229 [] []), (8, .int .i64 es.length), (9, .int .i64 i)]) (fun _ => [])
    (fun i => i <= es.length /\ (∀ q, q < i -> (froms es).getD q 0 < t) /\ ∀ q, i <= q -> q < es.length -> ¬ (froms es).getD q 0 < t) ?_ ⟨Nat.zero_le _, Nat.le_refl _, fun q hq => absurd hq (Nat.not_lt_zero _), fun q h1 h2 => by omega⟩ ?_ ?_
  · exact ⟨[], rfl, au0, au9, au10⟩
  · rintro ⟨i, j⟩ ⟨hij, hj, h1, h2⟩
    dsimp only at hij hj h1 h2 ⊢
    by_cases hlt : i < j
    · obtain ⟨k, hk, hk1, hk2⟩ : ∃ k : Nat, aBin .shr (.int .u64 ((i : Int) + (j : Int))) (.int .u64 1) = some (.int .u64 (k : Int)) /\ i <= k /\ k < j := ⟨(i + j) / 2, shr1, by omega, by omega⟩
      have hkl : k < es.length := by omega
      obtain ⟨e, he⟩ := Qap hkl
      have hke : (froms es).getD k 0 = e.1 := by rw [List.getD_eq_getElem?_getD, List.getElem?_map, he]; rfl
      have heb := hb e (List.mem_of_getElem? he)
      simp (disch := first | omega | (simp only [lenW] <;> omega)) only [hlt, hk, hkl, QaO he, wW, wV, simprocAttr]
      refine cp (sub229 e t heb ht) ?_
      by_cases hc : e.1 < t
      · have hc' : (e.1 : Int) - (t : Int) < 0 := by omega
        simp (disch := first | omega | (simp only [lenW] <;> omega)) only [hc', wW, wV, simprocAttr]
        refine ⟨(k + 1, j), by dsimp only; omega, ⟨by dsimp only; omega, hj, fun q hq => ?_, h2⟩, ⟨[], rfl, au0, au9, au10⟩⟩
        have := Qcq hs (p := q) (q := k) (by dsimp only at hq; omega) (by omega)
        omega
      · have hc' : ¬ (e.1 : Int) - (t : Int) < 0 := by omega
        simp (disch := first | omega | (simp only [lenW] <;> omega)) only [hc', wW, wV, simprocAttr]
        refine ⟨(i, k), by dsimp only; omega, ⟨hk1, by dsimp only; omega, h1, fun q hq hql => ?_⟩, ⟨[], rfl, au0, au9, au10⟩⟩
        have := Qcq hs (p := k) (q := q) hq (by omega)
        omega
    · have e : i = j := by omega
      subst e
      simp (disch := first | omega | (simp only [lenW] <;> omega)) only [hlt, wW, wV, simprocAttr]
      exact ⟨i, ⟨hj, h1, h2⟩, ⟨[], rfl, au0, au9, au10⟩⟩
  rintro i ⟨hi, h1, h2⟩
  rw [lb_eq (by omega) h1 fun q a b => h2 q a (by omega), QiG hs h1 fun q a b => h2 q a (by omega)]
  by_cases hlt : i < es.length
  · obtain ⟨e, he⟩ := Qap hlt
    have hke : (froms es).getD i 0 = e.1 := by rw [List.getD_eq_getElem?_getD, List.getElem?_map, he]; rfl
    have heb := hb e (List.mem_of_getElem? he)
    rw [hke]
    by_cases hc : e.1 = t
    · rw [decide_eq_true ⟨by omega, hc⟩]
      have hc' : (e.1 : Int) - (t : Int) = 0 := by omega
      simp (disch := first | omega | (simp only [lenW] <;> omega)) only [hlt, QaO he, wW, wV, simprocAttr]
      refine cp (sub229 e t heb ht) ?_
      simp (disch := first | omega | (simp only [lenW] <;> omega)) only [hc', wW, wV, simprocAttr]
      exact ⟨.inr trivial, _, rfl, rfl⟩
    · rw [decide_eq_false fun h => hc h.2]
      have hc' : ¬ (e.1 : Int) - (t : Int) = 0 := by omega
      simp (disch := first | omega | (simp only [lenW] <;> omega)) only [hlt, QaO he, wW, wV, simprocAttr]
      refine cp (sub229 e t heb ht) ?_
      simp (disch := first | omega | (simp only [lenW] <;> omega)) only [hc', wW, wV, simprocAttr]
      exact ⟨.inr trivial, _, rfl, rfl⟩
  · rw [decide_eq_false fun h => hlt (by omega)]
    simp (disch := first | omega | (simp only [lenW] <;> omega)) only [hlt, wW, wV, simprocAttr]
    exact ⟨.inr trivial, _, rfl, rfl⟩
theorem find67b (es : List Ed) (t : Nat) (hs : (froms es).Pairwise (· <= ·)) (hb : ∀ e ∈ es, e.1 <= 1000000) (ht : t <= 1000000) (hl : es.length <= 1000000) : PSpec Tryz.prog 228 [egsN es, .int .i64 (t : Int), .fn 230 [] []] (.tup [.int .i64 (lbN (froms es) t : Int), .bool ((froms es).contains t)]) := by
  refine PSpec.Qar 64 ok228 rfl (by (try simp only [noRefs, Qaq, Qaj, Qan, Qaa, Qaf, Qad, Qag, Qas, Qae, noRef, Bool.and_self, Bool.and_true]) <;> rfl) rfl ?_
  have hfl : (froms es).length = es.length := by simp
  simp (disch := first | omega | (simp only [lenW] <;> omega)) only [s228, wW, wV, simprocAttr]
  refine Qav 100 (fun p : Nat × Nat => [(0, egsN es), (1, .int .i64 (t : Int)), (2, .fn 230 [] []), (8, .int .i64 es.length), (9, .int .i64 p.1), (10, .int .i64 p.2)]) (fun _ => [])
    (fun p => p.1 <= p.2 /\ p.2 <= es.length /\ (∀ q, q < p.1 -> (froms es).getD q 0 < t) /\ ∀ q, p.2 <= q -> q < es.length -> ¬ (froms es).getD q 0 < t) (fun p => p.2 - p.1) (0, es.length) 0 140
    (fun i : Nat => [(0, egsN es), (1, .int .i64 (t : Int)), (2, .fn 230 [] []), (8, .int .i64 es.length), (9, .int .i64 i)]) (fun _ => [])
    (fun i => i <= es.length /\ (∀ q, q < i -> (froms es).getD q 0 < t) /\ ∀ q, i <= q -> q < es.length -> ¬ (froms es).getD q 0 < t) ?_ ⟨Nat.zero_le _, Nat.le_refl _, fun q hq => absurd hq (Nat.not_lt_zero _), fun q h1 h2 => by omega⟩ ?_ ?_
  · exact ⟨[], rfl, au0, au9, au10⟩
  · rintro ⟨i, j⟩ ⟨hij, hj, h1, h2⟩
    dsimp only at hij hj h1 h2 ⊢
    by_cases hlt : i < j
    · obtain ⟨k, hk, hk1, hk2⟩ : ∃ k : Nat, aBin .shr (.int .u64 ((i : Int) + (j : Int))) (.int .u64 1) = some (.int .u64 (k : Int)) /\ i <= k /\ k < j := ⟨(i + j) / 2, shr1, by omega, by omega⟩
      have hkl : k < es.length := by omega
      obtain ⟨e, he⟩ := Qap hkl
      have hke : (froms es).getD k 0 = e.1 := by rw [List.getD_eq_getElem?_getD, List.getElem?_map, he]; rfl
      have heb := hb e (List.mem_of_getElem? he)
      simp (disch := first | omega | (simp only [lenW] <;> omega)) only [hlt, hk, hkl, QaO he, wW, wV, simprocAttr]
      refine cp (sub230 e t heb ht) ?_
      by_cases hc : e.1 < t
      · have hc' : (e.1 : Int) - (t : Int) < 0 := by omega
        simp (disch := first | omega | (simp only [lenW] <;> omega)) only [hc', wW, wV, simprocAttr]
        refine ⟨(k + 1, j), by dsimp only; omega, ⟨by dsimp only; omega, hj, fun q hq => ?_, h2⟩, ⟨[], rfl, au0, au9, au10⟩⟩
        have := Qcq hs (p := q) (q := k) (by dsimp only at hq; omega) (by omega)
        omega
      · have hc' : ¬ (e.1 : Int) - (t : Int) < 0 := by omega
        simp (disch := first | omega | (simp only [lenW] <;> omega)) only [hc', wW, wV, simprocAttr]
        refine ⟨(i, k), by dsimp only; omega, ⟨hk1, by dsimp only; omega, h1, fun q hq hql => ?_⟩, ⟨[], rfl, au0, au9, au10⟩⟩
        have := Qcq hs (p := k) (q := q) hq (by omega)
        omega
    · have e : i = j := by omega
      subst e
      simp (disch := first | omega | (simp only [lenW] <;> omega)) only [hlt, wW, wV, simprocAttr]
      exact ⟨i, ⟨hj, h1, h2⟩, ⟨[], rfl, au0, au9, au10⟩⟩
  rintro i ⟨hi, h1, h2⟩
  rw [lb_eq (by omega) h1 fun q a b => h2 q a (by omega), QiG hs h1 fun q a b => h2 q a (by omega)]
  by_cases hlt : i < es.length
  · obtain ⟨e, he⟩ := Qap hlt
    have hke : (froms es).getD i 0 = e.1 := by rw [List.getD_eq_getElem?_getD, List.getElem?_map, he]; rfl
    have heb := hb e (List.mem_of_getElem? he)
    rw [hke]
    by_cases hc : e.1 = t
    · rw [decide_eq_true ⟨by omega, hc⟩]
      have hc' : (e.1 : Int) - (t : Int) = 0 := by omega
      simp (disch := first | omega | (simp only [lenW] <;> omega)) only [hlt, QaO he, wW, wV, simprocAttr]
      refine cp (sub230 e t heb ht) ?_
      simp (disch := first | omega | (simp only [lenW] <;> omega)) only [hc', wW, wV, simprocAttr]
      exact ⟨.inr trivial, _, rfl, rfl⟩
    · rw [decide_eq_false fun h => hc h.2]
      have hc' : ¬ (e.1 : Int) - (t : Int) = 0 := by omega
      simp (disch := first | omega | (simp only [lenW] <;> omega)) only [hlt, QaO he, wW, wV, simprocAttr]
      refine cp (sub230 e t heb ht) ?_
      simp (disch := first | omega | (simp only [lenW] <;> omega)) only [hc', wW, wV, simprocAttr]
      exact ⟨.inr trivial, _, rfl, rfl⟩
  · rw [decide_eq_false fun h => hlt (by omega)]
    simp (disch := first | omega | (simp only [lenW] <;> omega)) only [hlt, wW, wV, simprocAttr]
    exact ⟨.inr trivial, _, rfl, rfl⟩
theorem out58 (a : Aut) (v : Nat) (h : WfA a) (hel : a.es.length <= 1000000) (hv : v <= 1000) : PSpec Tryz.prog 199 [aV a, .int .i64 (v : Int)] (egsN (sOut a.es (fun _ => true) v)) := by
 have hs : (froms a.es).Pairwise (· <= ·) := by rw [List.pairwise_map]; exact h.srt
 have hb : ∀ e ∈ a.es, e.1 <= 1000000 := fun e he => by have := (h.esn e he).1; have := h.n5; omega
 have f1 := find67 a.es v hs hb (by omega) hel
 have f2 := find67b a.es (v + 1) hs hb (by omega) hel
 have e1 : ((v + 1 : Nat) : Int) = (v : Int) + 1 := by omega
 rw [e1] at f2
 have ho := QlM h.srt v
 have l1 := lb_le (l := froms a.es) (t := v + 1)
 rw [List.length_map] at l1
 have hm : lbN (froms a.es) v <= lbN (froms a.es) (v + 1) := List.countP_mono_left fun x _ hx => by simp at hx ⊢; omega
 generalize (froms a.es).contains v = b1 at *
 generalize (froms a.es).contains (v + 1) = b2 at *
 generalize lbN (froms a.es) v = p at *
 generalize lbN (froms a.es) (v + 1) = q at *
 have hlen : q - p = (sOut a.es (fun _ => true) v).length := by rw [<- ho, List.length_take, List.length_drop]; omega
 have hpq : (p : Int) <= (q : Int) := by omega
 have hql : (q : Int) <= (a.es.length : Int) := by omega
 refine PSpec.of_rn 64 ok199 rfl (by (try simp only [noRefs, Qaq, Qaj, Qan, Qaa, Qaf, Qad, Qag, Qas, Qae, noRef, Bool.and_self, Bool.and_true]) <;> rfl) (QaI _) ?_
 simp (disch := first | omega | (simp only [lenW] <;> omega)) only [s199, wW, wV, simprocAttr]
 refine cp f1 ?_
 simp (disch := first | omega | (simp only [lenW] <;> omega)) only [wW, wV, simprocAttr]
 refine cp f2 ?_
 simp (disch := first | omega | (simp only [lenW] <;> omega)) only [hpq, hql, wW, wV, simprocAttr]
 refine ⟨.inr trivial, _, rfl, ?_⟩
 rw [Qhl, Qhm, ho, hlen]
 exact Rn.same (QaI _)
end Go.AM.SE
namespace Go.AM.SE
open Go.Proofs Go.AM.SD
abbrev rsA (a : Aut) : List AV := [sliN a.al, .int .i64 (a.n : Int), sliN a.ms, egsN a.es]
abbrev rsN : List AV := [.nilsl, .int .i64 0, .nilsl, .nilsl]
end Go.AM.SE
namespace Go.AM.SE
open Go.Proofs Go.AM.SD
def pl (n : Nat) (o : List Nat) : List Int := (List.range n).map fun x => if o.contains x then ((SD.idx o x : Nat) : Int) else -1
theorem Qf7 {n : Nat} {o : List Nat} : (pl n o).length = n := by simp [pl]
theorem Qf8 {n : Nat} {o : List Nat} {x : Nat} (hx : x < n) : (pl n o).getD x 0 = if o.contains x then ((SD.idx o x : Nat) : Int) else -1 := by
 unfold pl; rw [List.getD_eq_getElem?_getD, List.getElem?_map, List.getElem?_range hx]; rfl
theorem QlN {n : Nat} {o : List Nat} {x : Nat} (hx : x ∉ o) : (pl n o).set x (o.length : Int) = pl n (o ++ [x]) := by
 refine List.ext_getElem (by simp [pl]) fun j h1 h2 => ?_
 have hj : j < n := by simpa [pl] using h2
 rw [List.getElem_set]
 simp only [pl, List.getElem_map, List.getElem_range]
 by_cases e : x = j
 ·subst e
  rw [if_pos rfl, if_pos (by simp), SD.Qdx hx]
 ·rw [if_neg e]
  by_cases hm : j ∈ o
  ·rw [if_pos (by simpa using hm), if_pos (by simp [hm]), SD.QcP hm]
  ·have e2 : ¬ j = x := fun h => e h.symm
   rw [if_neg (by simpa using hm), if_neg (by simp [hm, e2])]
theorem QmB {n : Nat} (h0 : 0 < n) : (List.replicate n (-1 : Int)).set 0 0 = pl n [0] := by
 refine List.ext_getElem (by simp [pl]) fun j h1 h2 => ?_
 have hj : j < n := by simpa [pl] using h2
 rw [List.getElem_set]
 simp only [pl, List.getElem_map, List.getElem_range, List.getElem_replicate]
 by_cases e : 0 = j
 ·subst e; rw [if_pos rfl, if_pos (by simp)]; rfl
 ·have e2 : ¬ j = 0 := fun h => e h.symm
  rw [if_neg e, if_neg (by simp [e2])]
abbrev cnB (a : Aut) (m e : Nat) : List AV := [.sl 83 0 0 a.al.length 1, .int .i64 0, .sl 77 0 0 m 1, .sl 76 0 0 e 3]
abbrev tru : Nat -> Bool := fun _ => true
theorem canonical44 (a : Aut) (h : WfA a) (hel : a.es.length <= 1000000) : PSpec Tryz.prog 150 [aV a] (aV (restr a tru)) := by
  have hn5 := h.n5
  have hal : a.al.length <= 5 := QaL 5 a.al (by rw [List.nodup_iff_pairwise_ne]; exact h.al.imp fun h => by omega) h.al5
  have hml : a.ms.length <= a.n := QaL a.n a.ms h.nd h.msn
  have hmsP : a.ms.Pairwise (· <= ·) := h.ms.imp fun h => by omega
  have hn' : (a.n : Int) <= 1099511627776 := by omega
  have hn8 : (8 : Int) * (a.n : Int) <= 1099511627776 := by omega
  refine PSpec.of_rn 40 ok150 rfl (by (try simp only [noRefs, Qaq, Qaj, Qan, Qaa, Qaf, Qad, Qag, Qas, Qae, noRef, Bool.and_self, Bool.and_true]) <;> rfl) (Qco _) ?_
  simp (disch := first | omega | (simp only [lenW] <;> omega)) only [s150, wW, wV, simprocAttr]
  refine ch (HSpec.of_O (b := 83) (by (try simp only [noRefs, Qaq, Qaj, Qan, Qaa, Qaf, Qad, Qag, Qas, Qae, noRef, Bool.and_self, Bool.and_true]) <;> rfl) (clone56 a.al (by omega)) (by repeat (first | exact Fresh.e | exact Fresh.le (by assumption) (by omega) | refine Fresh.set ?_ (by omega) (by omega))) rfl) ?_
  by_cases h0 : a.n = 0
  · have h0' : (a.n : Int) = 0 := by omega
    have e : sAll a tru = ([], []) := by unfold sAll; rw [h0]; rfl
    have hr : restr a tru = ⟨a.al, 0, [], []⟩ := by unfold restr; rw [e]; rfl
    simp (disch := first | omega | (simp only [lenW] <;> omega)) only [h0', wW, wV, simprocAttr]
    refine ⟨.inr trivial, _, rfl, ?_⟩
    rw [hr]
    exact Rn.agg (RnL.cons (Rn.fz0 (g := 0) rfl (by simp [ints]) (RnL.same (Qaa _))) (RnL.cons (Rn.same rfl) (RnL.cons Rn.nilK (RnL.cons Rn.nilK RnL.nil))))
  have h0' : ¬ (a.n : Int) = 0 := by omega
  have h0p : 0 < a.n := by omega
  have h0n : (0 : Int) < (a.n : Int) := by omega
  simp (disch := first | omega | (simp only [lenW] <;> omega)) only [h0', hn', hn8, Qmu, wW, wV, simprocAttr]
  refine Qav 100 (fun i : Nat => [(1, .ptr 50 0 0), (2, .ptr 60 0 0), (3, .ptr 69 0 0), (4, .sl 78 0 0 a.n 1), (24, .int .i64 a.n), (25, .int .i64 i)])
    (fun i => [(50, .cells 0 (rsA a)), (60, .cells 0 rsN), (69, .cells 0 [.sl 83 0 0 a.al.length 1, .int .i64 0, .nilsl, .nilsl]), (83, .cells 0 (ints (nz a.al))), (78, .cells 0 (ints (List.replicate i (-1) ++ List.replicate (a.n - i) 0)))])
    (fun i => i <= a.n) (fun i => a.n - i) 0 0 120
    (fun _ : Unit => [(1, .ptr 50 0 0), (2, .ptr 60 0 0), (3, .ptr 69 0 0), (4, .sl 78 0 0 a.n 1)])
    (fun _ => [(50, .cells 0 (rsA a)), (60, .cells 0 rsN), (69, .cells 0 [.sl 83 0 0 a.al.length 1, .int .i64 0, .nilsl, .nilsl]), (83, .cells 0 (ints (nz a.al))), (78, .cells 0 (ints (List.replicate a.n (-1))))]) (fun _ => True) ?_ (Nat.zero_le _) ?_ ?_
  · exact ⟨[(50, .blk 40 0), (60, .blk 41 0), (69, .blk 46 0), (83, .blk 83 0), (78, .blk 53 0)], rfl, au0, au9, au10⟩
  · rintro i hi
    by_cases hlt : i < a.n
    · have h1 : i + 1 <= i + (a.n - i) := by omega
      simp (disch := first | omega | (simp only [lenW] <;> omega)) only [hlt, h1, QdU, QlC hlt, wW, wV, simprocAttr]
      exact ⟨i + 1, by omega, by omega, ⟨[(50, .blk 50 0), (60, .blk 60 0), (69, .blk 69 0), (83, .blk 83 0), (78, .blk 78 0)], rfl, au0, au9, au10⟩⟩
    · have e : i = a.n := by omega
      subst e
      have e2 : List.replicate a.n (-1 : Int) ++ List.replicate (a.n - a.n) 0 = List.replicate a.n (-1) := by simp
      simp (disch := first | omega | (simp only [lenW] <;> omega)) only [hlt, wW, wV, simprocAttr]
      refine ⟨(), ?_⟩
      rw [e2]
      exact ⟨[(50, .blk 50 0), (60, .blk 60 0), (69, .blk 69 0), (83, .blk 83 0), (78, .blk 78 0)], rfl, au0, au9, au10⟩
  rintro _ _
  have hp1 : 1 <= a.n := h0p
  have hps := QmB h0p
  simp (disch := first | omega | (simp only [lenW] <;> omega)) only [h0n, hp1, QdU, hps, wW, wV, simprocAttr]
  have hsi : SI a.n a.es tru 0 (([0], []) : OE) := ⟨⟨by simp, fun x hx => by simp at hx; omega⟩, fun _ _ => rfl, Nat.zero_le _, fun j v hj => by omega, by simp⟩
  have hq0 : sQ a.es tru (a.n + 1) 0 ([0], []) = sAll a tru := by
    unfold sAll; rw [if_pos (by simp [h0p])]
  refine Qav 180 (fun t : Nat × OE => [(1, .ptr 50 0 0), (2, .ptr 60 0 0), (3, .ptr 69 0 0), (4, .sl 78 0 0 a.n 1), (6, .sl 75 0 0 t.2.1.length 1), (7, .int .i64 t.1)])
    (fun t => [(50, .cells 0 (rsA a)), (60, .cells 0 rsN), (69, .cells 0 (cnB a (mks a t.1 t.2.1).length t.2.2.length)), (83, .cells 0 (ints (nz a.al))), (78, .cells 0 (ints (pl a.n t.2.1))), (75, .cells 0 (ints (nz t.2.1))), (76, .cells 0 (t.2.2.flatMap edC)), (77, .cells 0 (ints (nz (mks a t.1 t.2.1))))])
    (fun t => t.1 <= a.n /\ SI a.n a.es tru t.1 t.2 /\ t.2.2.length <= t.1 * 1000000 /\ sQ a.es tru (a.n + 1 - t.1) t.1 t.2 = sAll a tru) (fun t => a.n + 1 - t.1) (0, ([0], [])) 2 260
    (fun _ : Unit => [(2, .ptr 60 0 0), (3, .ptr 69 0 0), (6, .sl 75 0 0 (sAll a tru).1.length 1)])
    (fun _ => [(60, .cells 0 rsN), (69, .cells 0 (cnB a (restr a tru).ms.length (restr a tru).es.length)), (83, .cells 0 (ints (nz a.al))), (75, .cells 0 (ints (nz (sAll a tru).1))), (76, .cells 0 ((restr a tru).es.flatMap edC)), (77, .cells 0 (ints (nz (restr a tru).ms)))]) (fun _ => True) ?_ ⟨Nat.zero_le _, hsi, Nat.zero_le _, hq0⟩ ?_ ?_
  · dsimp only
    have hms0 : mks a 0 [0] = [] := rfl
    rw [hms0]
    exact ⟨[(50, .blk 50 0), (60, .blk 60 0), (69, .blk 69 0), (83, .blk 83 0), (78, .blk 78 0), (75, .blk 123 0), (76, .nil), (77, .nil)], rfl, au0, au9, au10⟩
  · rintro ⟨i, s⟩ ⟨hi, hsi, hsl, hq⟩
    dsimp only at hi hsi hsl hq ⊢
    have hfl := hsi.fi.len
    have hile := hsi.le
    by_cases hlt : i < s.1.length
    · obtain ⟨v, hv⟩ := Qap hlt
      have hvn := hsi.fi.lt v (List.mem_of_getElem? hv)
      have hin' : i < a.n := by omega
      have hsi' := hsi.step h.esn hv
      have hq' : sQ a.es tru (a.n + 1 - (i + 1)) (i + 1) (sRow a.es tru i v s) = sAll a tru := by
        rw [<- hq, show a.n + 1 - i = (a.n + 1 - (i + 1)) + 1 by omega]
        simp only [sQ, hv]
      have hrow := fun j => Qda (n := a.n) (left := tru) i ((sOut a.es tru v).take j) s (fun e he => ⟨(h.esn e (QaM.1 (List.mem_of_mem_take he)).1).2, rfl⟩) hsi.fi hsi.lft
      have hol := Qft a.es tru v
      have hmn := QiE (a := a) hv
      have hmsl := @QjY a i s.1
      have hmapp : mks a (i + 1) (sRow a.es tru i v s).1 = mks a (i + 1) s.1 := by
        obtain ⟨_, _, ⟨t, ht⟩, _⟩ := Qda (n := a.n) (left := tru) i (sOut a.es tru v) s (fun e he => ⟨(h.esn e (QaM.1 he).1).2, rfl⟩) hsi.fi hsi.lft
        have ht : (sRow a.es tru i v s).1 = s.1 ++ t := ht
        rw [ht, Qm7 (by omega)]
      have hc := find57 a.ms v hmsP (by omega)
      have ho := out58 a v h hel (by omega)
      generalize hM0 : mks a i s.1 = M0 at *
      generalize hM : mks a (i + 1) s.1 = M at *
      simp (disch := first | omega | (simp only [lenW] <;> omega)) only [hlt, Qdb (nz_at hv), wW, wV, simprocAttr]
      refine cp hc ?_
      by_cases hmv : a.ms.contains v = true
      · rw [if_pos hmv] at hmn
        rw [hmv]
        simp (disch := first | omega | (simp only [lenW] <;> omega)) only [hlt, Qdb (nz_at hv), wW, wV, simprocAttr]
        refine cp ho ?_
        simp (disch := first | omega | (simp only [lenW] <;> omega)) only [wW, wV, simprocAttr]
        refine Qav 300 (fun j : Nat => [(1, .ptr 50 0 0), (2, .ptr 60 0 0), (3, .ptr 69 0 0), (4, .sl 78 0 0 a.n 1), (6, .sl 75 0 0 (((sOut a.es tru v).take j).foldl (sEd i) s).1.length 1), (7, .int .i64 i), (63, egsN (sOut a.es tru v)), (64, .int .i64 (sOut a.es tru v).length), (65, .int .i64 j)])
          (fun j => [(50, .cells 0 (rsA a)), (60, .cells 0 rsN), (69, .cells 0 (cnB a M.length (((sOut a.es tru v).take j).foldl (sEd i) s).2.length)), (83, .cells 0 (ints (nz a.al))), (78, .cells 0 (ints (pl a.n (((sOut a.es tru v).take j).foldl (sEd i) s).1))), (75, .cells 0 (ints (nz (((sOut a.es tru v).take j).foldl (sEd i) s).1))), (76, .cells 0 ((((sOut a.es tru v).take j).foldl (sEd i) s).2.flatMap edC)), (77, .cells 0 (ints (nz M)))])
          (fun j => j <= (sOut a.es tru v).length) (fun j => (sOut a.es tru v).length - j) 0 4 400
          (fun _ : Unit => [(1, .ptr 50 0 0), (2, .ptr 60 0 0), (3, .ptr 69 0 0), (4, .sl 78 0 0 a.n 1), (6, .sl 75 0 0 (sRow a.es tru i v s).1.length 1), (7, .int .i64 i)])
          (fun _ => [(50, .cells 0 (rsA a)), (60, .cells 0 rsN), (69, .cells 0 (cnB a M.length (sRow a.es tru i v s).2.length)), (83, .cells 0 (ints (nz a.al))), (78, .cells 0 (ints (pl a.n (sRow a.es tru i v s).1))), (75, .cells 0 (ints (nz (sRow a.es tru i v s).1))), (76, .cells 0 ((sRow a.es tru i v s).2.flatMap edC)), (77, .cells 0 (ints (nz M)))]) (fun _ => True) ?_ (Nat.zero_le _) ?_ ?_
        · rw [hmn, List.length_append, QaF, Qax]
          exact ⟨[(50, .blk 50 0), (60, .blk 60 0), (69, .blk 69 0), (83, .blk 83 0), (78, .blk 78 0), (75, .blk 75 0), (76, .blk 76 0), (77, .blk 77 1)], rfl, au0, au9, au10⟩
        · rintro j hj
          by_cases hjl : j < (sOut a.es tru v).length
          · obtain ⟨e, he⟩ := Qap hjl
            have hem := QaM.1 (List.mem_of_getElem? he)
            have hto := (h.esn e hem.1).2
            obtain ⟨k1, _, _, _, _⟩ := hrow j
            have hfi := k1.len
            have hstep := Qhg (i := i) (s := s) he
            have hsl2 := Qdc (i := i) ((sOut a.es tru v).take j) s
            rw [List.length_take] at hsl2
            generalize (((sOut a.es tru v).take j).foldl (sEd i) s) = t at *
            have hel2 := QbG t.2
            have hpl := Qf7 (n := a.n) (o := t.1)
            have hpg := Qf8 (o := t.1) hto
            have hpt : e.2.2 < (pl a.n t.1).length := by omega
            have hp1 : e.2.2 + 1 <= (pl a.n t.1).length := by omega
            by_cases hc : e.2.2 ∈ t.1
            · have h2 : sEd i t e = (t.1, t.2 ++ [(i, e.2.1, SD.idx t.1 e.2.2)]) := if_pos (by simpa using hc)
              rw [h2] at hstep
              rw [if_pos (by simpa using hc)] at hpg
              have h3 : ¬ ((SD.idx t.1 e.2.2 : Nat) : Int) < 0 := by omega
              generalize SD.idx t.1 e.2.2 = q at *
              simp (disch := first | omega | (simp only [lenW] <;> omega)) only [hjl, QaO he, hto, Qb2 hpt, hpg, h3, hel2, wW, wV, simprocAttr]
              refine ⟨j + 1, by omega, by omega, ?_⟩
              rw [hstep, List.flatMap_append, List.length_append]
              exact ⟨[(50, .blk 50 0), (60, .blk 60 0), (69, .blk 69 0), (83, .blk 83 0), (78, .blk 78 0), (75, .blk 75 0), (76, .blk 76 1), (77, .blk 77 0)], rfl, au0, au9, au10⟩
            · have h2 : sEd i t e = (t.1 ++ [e.2.2], t.2 ++ [(i, e.2.1, t.1.length)]) := if_neg (by simpa using hc)
              rw [h2] at hstep
              rw [if_neg (by simpa using hc)] at hpg
              have hps := QlN (n := a.n) hc
              have h3 : (-1 : Int) < 0 := by decide
              have hpl2 : e.2.2 < (pl a.n (t.1 ++ [e.2.2])).length := by rw [Qf7]; exact hto
              have hpg2 : (pl a.n (t.1 ++ [e.2.2])).getD e.2.2 0 = (t.1.length : Int) := by
                rw [Qf8 hto, if_pos (by simp), SD.Qdx hc]
              simp (disch := first | omega | (simp only [lenW] <;> omega)) only [hjl, QaO he, hto, Qb2 hpt, hpg, h3, hel2, hp1, QdU, hps, Qb2 hpl2, hpg2, wW, wV, simprocAttr]
              refine ⟨j + 1, by omega, by omega, ?_⟩
              rw [hstep, List.flatMap_append, List.length_append]
              dsimp only
              rw [List.length_append, QaF, Qax]
              exact ⟨[(50, .blk 50 0), (60, .blk 60 0), (69, .blk 69 0), (83, .blk 83 0), (78, .blk 78 0), (75, .blk 75 1), (76, .blk 76 1), (77, .blk 77 0)], rfl, au0, au9, au10⟩
          · have e : j = (sOut a.es tru v).length := by omega
            subst e
            simp (disch := first | omega | (simp only [lenW] <;> omega)) only [hjl, wW, wV, simprocAttr]
            refine ⟨(), ?_⟩
            exact ⟨[(50, .blk 50 0), (60, .blk 60 0), (69, .blk 69 0), (83, .blk 83 0), (78, .blk 78 0), (75, .blk 75 0), (76, .blk 76 0), (77, .blk 77 0)], rfl, au0, au9, au10⟩
        rintro _ _
        have hsl3 : (sRow a.es tru i v s).2.length = s.2.length + (sOut a.es tru v).length := Qdc _ _
        have hol3 := Qft a.es tru v
        simp (disch := first | omega | (simp only [lenW] <;> omega)) only [wW, wV, simprocAttr]
        refine ⟨(i + 1, sRow a.es tru i v s), by dsimp only; omega, ⟨hin', hsi', by dsimp only; omega, hq'⟩, ?_⟩
        dsimp only
        rw [hmapp]
        exact ⟨[(50, .blk 50 0), (60, .blk 60 0), (69, .blk 69 0), (83, .blk 83 0), (78, .blk 78 0), (75, .blk 75 0), (76, .blk 76 0), (77, .blk 77 0)], rfl, au0, au9, au10⟩
      · rw [if_neg hmv, List.append_nil] at hmn
        rw [Bool.not_eq_true] at hmv
        rw [hmv]
        simp (disch := first | omega | (simp only [lenW] <;> omega)) only [hlt, Qdb (nz_at hv), wW, wV, simprocAttr]
        refine cp ho ?_
        simp (disch := first | omega | (simp only [lenW] <;> omega)) only [wW, wV, simprocAttr]
        refine Qav 300 (fun j : Nat => [(1, .ptr 50 0 0), (2, .ptr 60 0 0), (3, .ptr 69 0 0), (4, .sl 78 0 0 a.n 1), (6, .sl 75 0 0 (((sOut a.es tru v).take j).foldl (sEd i) s).1.length 1), (7, .int .i64 i), (63, egsN (sOut a.es tru v)), (64, .int .i64 (sOut a.es tru v).length), (65, .int .i64 j)])
          (fun j => [(50, .cells 0 (rsA a)), (60, .cells 0 rsN), (69, .cells 0 (cnB a M.length (((sOut a.es tru v).take j).foldl (sEd i) s).2.length)), (83, .cells 0 (ints (nz a.al))), (78, .cells 0 (ints (pl a.n (((sOut a.es tru v).take j).foldl (sEd i) s).1))), (75, .cells 0 (ints (nz (((sOut a.es tru v).take j).foldl (sEd i) s).1))), (76, .cells 0 ((((sOut a.es tru v).take j).foldl (sEd i) s).2.flatMap edC)), (77, .cells 0 (ints (nz M)))])
          (fun j => j <= (sOut a.es tru v).length) (fun j => (sOut a.es tru v).length - j) 0 4 400
          (fun _ : Unit => [(1, .ptr 50 0 0), (2, .ptr 60 0 0), (3, .ptr 69 0 0), (4, .sl 78 0 0 a.n 1), (6, .sl 75 0 0 (sRow a.es tru i v s).1.length 1), (7, .int .i64 i)])
          (fun _ => [(50, .cells 0 (rsA a)), (60, .cells 0 rsN), (69, .cells 0 (cnB a M.length (sRow a.es tru i v s).2.length)), (83, .cells 0 (ints (nz a.al))), (78, .cells 0 (ints (pl a.n (sRow a.es tru i v s).1))), (75, .cells 0 (ints (nz (sRow a.es tru i v s).1))), (76, .cells 0 ((sRow a.es tru i v s).2.flatMap edC)), (77, .cells 0 (ints (nz M)))]) (fun _ => True) ?_ (Nat.zero_le _) ?_ ?_
        · rw [hmn]
          exact ⟨[(50, .blk 50 0), (60, .blk 60 0), (69, .blk 69 0), (83, .blk 83 0), (78, .blk 78 0), (75, .blk 75 0), (76, .blk 76 0), (77, .blk 77 0)], rfl, au0, au9, au10⟩
        · rintro j hj
          by_cases hjl : j < (sOut a.es tru v).length
          · obtain ⟨e, he⟩ := Qap hjl
            have hem := QaM.1 (List.mem_of_getElem? he)
            have hto := (h.esn e hem.1).2
            obtain ⟨k1, _, _, _, _⟩ := hrow j
            have hfi := k1.len
            have hstep := Qhg (i := i) (s := s) he
            have hsl2 := Qdc (i := i) ((sOut a.es tru v).take j) s
            rw [List.length_take] at hsl2
            generalize (((sOut a.es tru v).take j).foldl (sEd i) s) = t at *
            have hel2 := QbG t.2
            have hpl := Qf7 (n := a.n) (o := t.1)
            have hpg := Qf8 (o := t.1) hto
            have hpt : e.2.2 < (pl a.n t.1).length := by omega
            have hp1 : e.2.2 + 1 <= (pl a.n t.1).length := by omega
            by_cases hc : e.2.2 ∈ t.1
            · have h2 : sEd i t e = (t.1, t.2 ++ [(i, e.2.1, SD.idx t.1 e.2.2)]) := if_pos (by simpa using hc)
              rw [h2] at hstep
              rw [if_pos (by simpa using hc)] at hpg
              have h3 : ¬ ((SD.idx t.1 e.2.2 : Nat) : Int) < 0 := by omega
              generalize SD.idx t.1 e.2.2 = q at *
              simp (disch := first | omega | (simp only [lenW] <;> omega)) only [hjl, QaO he, hto, Qb2 hpt, hpg, h3, hel2, wW, wV, simprocAttr]
              refine ⟨j + 1, by omega, by omega, ?_⟩
              rw [hstep, List.flatMap_append, List.length_append]
              exact ⟨[(50, .blk 50 0), (60, .blk 60 0), (69, .blk 69 0), (83, .blk 83 0), (78, .blk 78 0), (75, .blk 75 0), (76, .blk 76 1), (77, .blk 77 0)], rfl, au0, au9, au10⟩
            · have h2 : sEd i t e = (t.1 ++ [e.2.2], t.2 ++ [(i, e.2.1, t.1.length)]) := if_neg (by simpa using hc)
              rw [h2] at hstep
              rw [if_neg (by simpa using hc)] at hpg
              have hps := QlN (n := a.n) hc
              have h3 : (-1 : Int) < 0 := by decide
              have hpl2 : e.2.2 < (pl a.n (t.1 ++ [e.2.2])).length := by rw [Qf7]; exact hto
              have hpg2 : (pl a.n (t.1 ++ [e.2.2])).getD e.2.2 0 = (t.1.length : Int) := by
                rw [Qf8 hto, if_pos (by simp), SD.Qdx hc]
              simp (disch := first | omega | (simp only [lenW] <;> omega)) only [hjl, QaO he, hto, Qb2 hpt, hpg, h3, hel2, hp1, QdU, hps, Qb2 hpl2, hpg2, wW, wV, simprocAttr]
              refine ⟨j + 1, by omega, by omega, ?_⟩
              rw [hstep, List.flatMap_append, List.length_append]
              dsimp only
              rw [List.length_append, QaF, Qax]
              exact ⟨[(50, .blk 50 0), (60, .blk 60 0), (69, .blk 69 0), (83, .blk 83 0), (78, .blk 78 0), (75, .blk 75 1), (76, .blk 76 1), (77, .blk 77 0)], rfl, au0, au9, au10⟩
          · have e : j = (sOut a.es tru v).length := by omega
            subst e
            simp (disch := first | omega | (simp only [lenW] <;> omega)) only [hjl, wW, wV, simprocAttr]
            refine ⟨(), ?_⟩
            exact ⟨[(50, .blk 50 0), (60, .blk 60 0), (69, .blk 69 0), (83, .blk 83 0), (78, .blk 78 0), (75, .blk 75 0), (76, .blk 76 0), (77, .blk 77 0)], rfl, au0, au9, au10⟩
        rintro _ _
        have hsl3 : (sRow a.es tru i v s).2.length = s.2.length + (sOut a.es tru v).length := Qdc _ _
        have hol3 := Qft a.es tru v
        simp (disch := first | omega | (simp only [lenW] <;> omega)) only [wW, wV, simprocAttr]
        refine ⟨(i + 1, sRow a.es tru i v s), by dsimp only; omega, ⟨hin', hsi', by dsimp only; omega, hq'⟩, ?_⟩
        dsimp only
        rw [hmapp]
        exact ⟨[(50, .blk 50 0), (60, .blk 60 0), (69, .blk 69 0), (83, .blk 83 0), (78, .blk 78 0), (75, .blk 75 0), (76, .blk 76 0), (77, .blk 77 0)], rfl, au0, au9, au10⟩
    · have hv : s.1[i]? = none := List.getElem?_eq_none (by omega)
      have hqf : s = sAll a tru := by
        rw [<- hq, show a.n + 1 - i = (a.n - i) + 1 by omega]
        simp only [sQ, hv]
      have hil : i = s.1.length := by omega
      have hmf : mks a i s.1 = (restr a tru).ms := by rw [hil, hqf]; rfl
      have hef : s.2 = (restr a tru).es := by rw [hqf]; rfl
      simp (disch := first | omega | (simp only [lenW] <;> omega)) only [hlt, wW, wV, simprocAttr]
      refine ⟨(), ?_⟩
      rw [hmf, hef, <- hqf]
      exact ⟨[(60, .blk 60 0), (69, .blk 69 0), (83, .blk 83 0), (75, .blk 75 0), (76, .blk 76 0), (77, .blk 77 0)], rfl, au0, au9, au10⟩
  rintro _ _
  have hra : (restr a tru).al = a.al := rfl
  have hrn2 : (restr a tru).n = (sAll a tru).1.length := rfl
  simp (disch := first | omega | (simp only [lenW] <;> omega)) only [wW, wV, simprocAttr]
  refine ⟨.inr trivial, _, rfl, ?_⟩
  exact Rn.agg (RnL.cons (Rn.fz0 (g := 0) rfl (by simp [ints, hra]) (RnL.same (Qaa _))) (RnL.cons (Rn.same rfl) (RnL.cons (Rn.fz0 (g := 0) rfl (by simp [ints]) (RnL.same (Qaa _))) (RnL.cons (Rn.fz0 (g := 0) rfl (QbG _) (RnL.same (Qad _))) RnL.nil))))
end Go.AM.SE
namespace Go.AM.SO
open Go.Proofs Go.AM.SD Go.AM.SE
theorem check112 (a : Aut) (h : WfA a) (hel : a.es.length <= 1000000) : PSpec Tryz.prog 112 [aV a] (.int .i64 0) := by
 have := check37 (au a) (WfA.auOk h hel)
 rwa [QnC] at this
theorem isCanon60 (a : Aut) (h : WfA a) (hel : a.es.length <= 1000000) (hc : restr a (fun _ => true) = a) : PSpec Tryz.prog 60 [aV a] (.bool true) := by
 have h1 := canonical44 a h hel
 have hc' : restr a tru = a := hc
 rw [hc'] at h1
 have hn5 := h.n5
 have hal : a.al.length <= 5 := QaL 5 a.al (by rw [List.nodup_iff_pairwise_ne]; exact h.al.imp fun h => by omega) h.al5
 have hml : a.ms.length <= a.n := QaL a.n a.ms h.nd h.msn
 have ho : AOk a := ⟨by omega, by omega, by omega⟩
 have h2 := eq43 a a ho ho
 rw [QlL] at h2
 refine PSpec.Qar 64 ok60 rfl (by (try simp only [noRefs, Qaa, Qaf, Qad, Qag, Qae, noRef, Bool.and_self, Bool.and_true]) <;> rfl) rfl ?_
 simp (disch := first | omega | (simp only [lenW] <;> omega)) only [s60, wV, simprocAttr]
 refine cp (check112 a h hel) ?_
 simp (disch := first | omega | (simp only [lenW] <;> omega)) only [wV, simprocAttr]
 refine cp h1 ?_
 simp (disch := first | omega | (simp only [lenW] <;> omega)) only [wV, simprocAttr]
 refine cp h2 ?_
 simp (disch := first | omega | (simp only [lenW] <;> omega)) only [wV, simprocAttr]
 exact ⟨.inr trivial, _, rfl, rfl⟩
end Go.AM.SO
namespace Go.AM.SP
open Go.Proofs
noncomputable section
def isTrue : AV -> Bool | .bool true => true | _ => false
theorem QlO : ∀ u, isTrue u = true -> u = .bool true := by
 intro u h
 unfold isTrue at h
 split at h
 ·rfl
 ·cases h
def nameB (s : List UInt8) : Bool := callR ansB noOrc SK.ft.get (exR ansB noOrc SK.ft.get 1000) (.c .pure) 135 [.str s] .e 64 (fun u _ _ => isTrue u)
theorem Qbz {s : List UInt8} (h : nameB s = true) : PSpec Tryz.prog 135 [.str s] (.bool true) :=
 Qbt (t := SK.ft) SK.ft_ok Qc9 (d := 1000) isTrue QlO h
theorem QnF : PSpec Tryz.prog 135 [.str [97]] (.bool true) := Qbz (by kernel_rfl)
theorem QnG : PSpec Tryz.prog 135 [.str [98]] (.bool true) := Qbz (by kernel_rfl)
theorem QiH : PSpec Tryz.prog 135 [.str [99]] (.bool true) := Qbz (by kernel_rfl)
theorem QnH : PSpec Tryz.prog 135 [.str [100]] (.bool true) := Qbz (by kernel_rfl)
theorem QnI : PSpec Tryz.prog 135 [.str [101]] (.bool true) := Qbz (by kernel_rfl)
theorem Qm9 : PSpec Tryz.prog 135 [.str [99, 48]] (.bool true) := Qbz (by kernel_rfl)
theorem Qna : PSpec Tryz.prog 135 [.str [99, 49]] (.bool true) := Qbz (by kernel_rfl)
theorem Qnb : PSpec Tryz.prog 135 [.str [99, 50]] (.bool true) := Qbz (by kernel_rfl)
theorem Qnc : PSpec Tryz.prog 135 [.str [114, 48]] (.bool true) := Qbz (by kernel_rfl)
theorem Qnd : PSpec Tryz.prog 135 [.str [114, 49]] (.bool true) := Qbz (by kernel_rfl)
end
end Go.AM.SP
namespace Go.AM.SO
open Go.Proofs Go.AM.SD Go.AM.SE
structure Evt where
 c : Bool
 o : Bool
 f : Bool
 flt : Nat
def Evt.Ok (e : Evt) : Prop := e.flt <= 4 /\ (e.flt ≠ 0 -> e.c = false /\ e.o = false)
def evC (i : Nat) (e : Evt) : List AV := [.str [UInt8.ofNat (97 + i)], .bool e.c, .bool e.o, .bool e.f, .int .i64 (e.flt : Int)]
abbrev evsC (e : Nat -> Evt) : List AV := evC 0 (e 0) ++ evC 1 (e 1) ++ evC 2 (e 2) ++ evC 3 (e 3) ++ evC 4 (e 4)
abbrev evsV (e : Nat -> Evt) : AV := .fsl (evsC e) 5 5
theorem QnJ (e : Nat -> Evt) {i : Nat} (hi : i < 5) : ((evsC e).drop (i * 5)).take 5 = evC i (e i) := by
 have : i = 0 \/ i = 1 \/ i = 2 \/ i = 3 \/ i = 4 := by omega
 rcases this with rfl | rfl | rfl | rfl | rfl <;> rfl
theorem Qne (e : Nat -> Evt) : (evsC e).length = 25 := rfl
theorem Qnf {i : Nat} (hi : i < 5) : PSpec Tryz.prog 135 [.str [UInt8.ofNat (97 + i)]] (.bool true) := by
 have : i = 0 \/ i = 1 \/ i = 2 \/ i = 3 \/ i = 4 := by omega
 rcases this with rfl | rfl | rfl | rfl | rfl
 ·exact SP.QnF
 ·exact SP.QnG
 ·exact SP.QiH
 ·exact SP.QnH
 ·exact SP.QnI
end Go.AM.SO
namespace Go.AM
variable {P : Program}
def mapS (f : List UInt8 -> AV) (l : List (List UInt8)) : List (AV × AV) := l.map fun x => (.str x, f x)
def updS (f : List UInt8 -> AV) (x : List UInt8) (v : AV) : List UInt8 -> AV := fun y => if y = x then v else f y
theorem Qhn {x y : List UInt8} : keyEq false [.s] (.str x) (.str y) = some (decide (x = y)) := by
 by_cases e : x = y
 ·subst e; simp [keyEq, eqCells, eqCell]
 ·simp [keyEq, eqCells, eqCell, e]
theorem QdW {f : List UInt8 -> AV} {x : List UInt8} : ∀ (l : List (List UInt8)) (i : Nat), x ∉ l -> aFind false [.s] (.str x) (mapS f l) i = some none
 | [], _, _ => rfl
 | y :: l, i, hx => by
  simp only [List.mem_cons, not_or] at hx
  show (match keyEq false [.s] (.str x) (.str y) with | some true => _ | some false => _ | none => _) = _
  rw [Qhn, decide_eq_false hx.1]
  exact QdW l (i + 1) hx.2
theorem QmC {f : List UInt8 -> AV} {x : List UInt8} {v : AV} {l : List (List UInt8)} (hx : x ∉ l) : mapS f l ++ [(.str x, v)] = mapS (updS f x v) (l ++ [x]) := by
 have : mapS f l = mapS (updS f x v) l := List.map_congr_left fun z hz => by
  have : z ≠ x := fun h => hx (h ▸ hz)
  simp [updS, this]
 rw [this]
 simp [mapS, updS]
theorem Qho {x : List UInt8} : keyOK false [.s] (.str x) = true := by unfold keyOK; rw [Qhn]
section
variable {N : NM} {d : Option Nat} {r : List SOper} {dead : List Nat} {fs : List Fr} {n : Nat} {T : Tmps} {h : Heap} {Q : QC}
theorem Qev {f : List UInt8 -> AV} {x : List UInt8} {l : List (List UInt8)} {b g : Nat} {z : AV} {ok : Bool} (hb : h.get b = some (.map g (mapS f l))) (hx : x ∉ l)
  (hk : wR P N r dead fs (n + 1) (putD T d (if ok then .tup [z, .bool false] else z)) h Q) : wM P N (aLookup false [.s] z ok (.map b g) (.str x)) d r dead fs n T h Q := by
 refine ⟨_, h, ?_, hk⟩
 have hg : Nat.beq g g = true := by simp
 unfold aLookup
 rw [if_pos Qho]
 simp only [HM.entries, HM.run, hb, hg, cond_true, QdW l 0 hx]
theorem Qdd {f : List UInt8 -> AV} {x : List UInt8} {l : List (List UInt8)} {b g : Nat} {v : AV} (hb : h.get b = some (.map g (mapS f l))) (hx : x ∉ l) (hl : b < 1099511627775)
  (hk : wR P N r dead fs (n + 1) (putD T d .any) (h.set b (.map g (mapS (updS f x v) (l ++ [x])))) Q) : wM P N (aMapUpd false [.s] (.map b g) (.str x) v) d r dead fs n T h Q := by
 refine ⟨_, _, ?_, hk⟩
 have hg : Nat.beq g g = true := by simp
 have hl' : Nat.blt b lim = true := by simp [Nat.blt]; exact hl
 unfold aMapUpd
 rw [if_pos Qho]
 simp only [HM.entries, HM.run, hb, hg, cond_true, QdW l 0 hx, hl', QmC hx]
end
theorem RnM.mapS {m : Nat} {π : Nat -> Option Src} {h : Heap} {f g : List UInt8 -> AV} : ∀ {l : List (List UInt8)}, (∀ x ∈ l, Rn m π h (f x) (g x)) -> RnM m π h (mapS f l) (mapS g l)
 | [], _ => trivial
 | x :: l, hf => ⟨⟨Rn.same rfl, hf x (by simp)⟩, RnM.mapS (l := l) fun y hy => hf y (by simp [hy])⟩
end Go.AM
namespace Go.AM.SO
open Go.Proofs Go.AM.SD Go.AM.SE
def nmL (i : Nat) : List (List UInt8) := (List.range i).map fun j => [UInt8.ofNat (97 + j)]
theorem QmD {i : Nat} : nmL (i + 1) = nmL i ++ [[UInt8.ofNat (97 + i)]] := by
 unfold nmL
 rw [List.range_succ, List.map_append]; rfl
theorem Qng {i : Nat} (hi : i < 5) : [UInt8.ofNat (97 + i)] ∉ nmL i := by
 have : i = 0 \/ i = 1 \/ i = 2 \/ i = 3 \/ i = 4 := by omega
 rcases this with rfl | rfl | rfl | rfl | rfl <;> decide
abbrev yes : List UInt8 -> AV := fun _ => .bool true
theorem Qfx {x : List UInt8} : updS yes x (.bool true) = yes := by
 funext y; simp [updS]
theorem QlP (e : Nat -> Evt) : noRefs [evsV e] = true := rfl
theorem check82 (e : Nat -> Evt) (he : ∀ i, i < 5 -> (e i).Ok) : PSpec Tryz.prog 82 [evsV e] (.int .i64 0) := by
  refine PSpec.Qar 64 ok82 rfl (QlP e) rfl ?_
  simp (disch := first | omega | (simp only [lenW] <;> omega)) only [s82, wW, wV, simprocAttr]
  refine QaE 100 (fun i : Nat => [(10, evsV e), (11, .int .i64 5), (12, .int .i64 i), (3, .map 68 0)]) (fun i => [(68, .map 0 (mapS yes (nmL i)))]) (fun i => i <= 5) (fun i => 5 - i) 0 ⟨[(68, .blk 68 0)], rfl, au0, ?_, au4⟩ (Nat.zero_le _) ?_
  · exact RB.map rfl rfl rfl trivial RB.nil
  rintro i hi
  by_cases hlt : i < 5
  · have hlt2 : (i : Int) < 5 := by omega
    have hat := QnJ e hlt
    have hln : 5 <= (List.drop (i * 5) (evsC e)).length := by rw [List.length_drop, Qne]; omega
    have hev : evC i (e i) = [.str [UInt8.ofNat (97 + i)], .bool (e i).c, .bool (e i).o, .bool (e i).f, .int .i64 ((e i).flt : Int)] := rfl
    obtain ⟨h4, hc⟩ := he i hlt
    generalize e i = ei at hat hev h4 hc
    obtain ⟨ec, eo, ef, efl⟩ := ei
    dsimp only at hat hev h4 hc
    have hnm := Qng hlt
    have hs := @QmD i
    have hne := Qnf hlt
    generalize UInt8.ofNat (97 + i) = ch at hev hnm hs hne
    simp (disch := first | omega | (simp only [lenW] <;> omega)) only [hlt2, hat, hln, hev, wW, wV, simprocAttr]
    refine cp hne ?_
    simp (disch := first | omega | (simp only [lenW] <;> omega)) only [wW, wV, simprocAttr]
    refine Qev rfl hnm ?_
    have k1 : ¬ (efl : Int) < 0 := by omega
    have k2 : ¬ 4 < (efl : Int) := by omega
    by_cases h0 : efl = 0
    · have k3 : (efl : Int) = 0 := by omega
      simp (disch := first | omega | (simp only [lenW] <;> omega)) only [k1, k2, k3, wW, wV, simprocAttr]
      refine Qdd gg hnm (by omega) ?_
      simp (disch := first | omega | (simp only [lenW] <;> omega)) only [Qfx, wW, wV, simprocAttr]
      refine ⟨i + 1, by omega, by omega, ?_⟩
      rw [hs]
      refine ⟨[(68, .blk 68 0)], rfl, au0, ?_, au4⟩
      exact RB.map rfl rfl gg (RnM.mapS fun _ _ => Rn.same rfl) RB.nil
    · have k3 : ¬ (efl : Int) = 0 := by omega
      obtain ⟨rfl, rfl⟩ := hc h0
      simp (disch := first | omega | (simp only [lenW] <;> omega)) only [k1, k2, k3, wW, wV, simprocAttr]
      refine Qdd gg hnm (by omega) ?_
      simp (disch := first | omega | (simp only [lenW] <;> omega)) only [Qfx, wW, wV, simprocAttr]
      refine ⟨i + 1, by omega, by omega, ?_⟩
      rw [hs]
      refine ⟨[(68, .blk 68 0)], rfl, au0, ?_, au4⟩
      exact RB.map rfl rfl gg (RnM.mapS fun _ _ => Rn.same rfl) RB.nil
  · have hlt2 : ¬ (i : Int) < 5 := by omega
    simp (disch := first | omega | (simp only [lenW] <;> omega)) only [hlt2, wW, wV, simprocAttr]
    exact ⟨.inr trivial, _, rfl, rfl⟩
end Go.AM.SO
namespace Go.AM.SO
open Go.Proofs Go.AM.SD Go.AM.SE
def evOf (b : Nat) : Evt := if 48 <= b /\ b < 52 then ⟨false, false, false, b - 47⟩ else ⟨decide (b &&& 1 = 1), decide (b &&& 2 = 2), decide (b &&& 4 = 4), 0⟩
theorem Qnh (b : Nat) : (evOf b).Ok := by
 unfold evOf
 split
 ·exact ⟨by dsimp only; omega, fun _ => ⟨rfl, rfl⟩⟩
 ·exact ⟨by dsimp only; omega, fun h => absurd rfl h⟩
theorem andN (b m : Nat) (hb : b < 256) (hm : m < 256) : (BitVec.ofInt 8 (b : Int) &&& BitVec.ofInt 8 (m : Int)).toNat = b &&& m := by
 rw [BitVec.toNat_and, BitVec.toNat_ofInt, BitVec.toNat_ofInt]
 have h1 : ((b : Int) % ((2 ^ 8 : Nat) : Int)).toNat = b := by omega
 have h2 : ((m : Int) % ((2 ^ 8 : Nat) : Int)).toNat = m := by omega
 rw [h1, h2]
theorem QiI (b m : Nat) (hm : m < 256) : b &&& m < 256 := Nat.lt_of_le_of_lt Nat.and_le_right hm
theorem QlQ {b : Nat} (hb : b < 256) : aBin .and (.int .u8 (b : Int)) (.int .u8 1) = some (.int .u8 ((b &&& 1 : Nat) : Int)) := by
 have := andN b 1 hb (by omega)
 have h2 := QiI b 1 (by omega)
 simp only [aBin, if_true]
 rw [show IntKind.u8.bits = 8 from rfl, show (1 : Int) = ((1 : Nat) : Int) from rfl, this, wr_u8 (by omega) (by omega)]
theorem QlR {b : Nat} (hb : b < 256) : aBin .and (.int .u8 (b : Int)) (.int .u8 2) = some (.int .u8 ((b &&& 2 : Nat) : Int)) := by
 have := andN b 2 hb (by omega)
 have h2 := QiI b 2 (by omega)
 simp only [aBin, if_true]
 rw [show IntKind.u8.bits = 8 from rfl, show (2 : Int) = ((2 : Nat) : Int) from rfl, this, wr_u8 (by omega) (by omega)]
theorem QlS {b : Nat} (hb : b < 256) : aBin .and (.int .u8 (b : Int)) (.int .u8 4) = some (.int .u8 ((b &&& 4 : Nat) : Int)) := by
 have := andN b 4 hb (by omega)
 have h2 := QiI b 4 (by omega)
 simp only [aBin, if_true]
 rw [show IntKind.u8.bits = 8 from rfl, show (4 : Int) = ((4 : Nat) : Int) from rfl, this, wr_u8 (by omega) (by omega)]
def evP (F : List Nat) (i : Nat) : List AV := (List.range i).flatMap fun j => evC j (evOf (F.getD j 0))
theorem QiJ {F : List Nat} {i : Nat} : evP F (i + 1) = evP F i ++ evC i (evOf (F.getD i 0)) := by
 unfold evP
 rw [List.range_succ, List.flatMap_append]; simp
theorem Qgo {F : List Nat} : ∀ {i : Nat}, (evP F i).length = i * 5
 | 0 => rfl
 | i + 1 => by rw [QiJ, List.length_append, Qgo]; simp [evC]; omega
end Go.AM.SO
namespace Go.AM.SO
open Go.Proofs Go.AM.SD Go.AM.SE
structure Cel where
 ev : Nat -> Evt
 cs : List (Nat × Aut)
 rs : List (Nat × Aut)
 xs : List (Nat × List (Nat × Nat))
 ks : List (List (Nat × Int) × Int)
def itC (ch : UInt8) (x : Nat × Aut) : List AV := [.str [ch, UInt8.ofNat (48 + x.1)], sliN x.2.al, .int .i64 (x.2.n : Int), sliN x.2.ms, egsN x.2.es]
def loC (x : Nat × Nat) : List AV := [.int .i64 (x.1 : Int), .int .i64 (x.2 : Int)]
abbrev los (l : List (Nat × Nat)) : AV := .fsl (l.flatMap loC) l.length 2
def exC (x : Nat × List (Nat × Nat)) : List AV := [.str [101, UInt8.ofNat (48 + x.1)], los x.2]
def teC (x : Nat × Int) : List AV := [.int .i64 (x.1 : Int), .int .i64 x.2]
abbrev tes (l : List (Nat × Int)) : AV := .fsl (l.flatMap teC) l.length 2
def coC (x : List (Nat × Int) × Int) : List AV := [.str [107], tes x.1, .int .i64 x.2]
abbrev its (ch : UInt8) (l : List (Nat × Aut)) : AV := .fsl (l.flatMap (itC ch)) l.length 5
abbrev exs (l : List (Nat × List (Nat × Nat))) : AV := .fsl (l.flatMap exC) l.length 2
abbrev cos (l : List (List (Nat × Int) × Int)) : AV := .fsl (l.flatMap coC) l.length 3
abbrev celV (c : Cel) : AV := .agg [evsV c.ev, its 99 c.cs, its 114 c.rs, exs c.xs, cos c.ks]
structure WfI (a : Aut) : Prop where
 wf : WfA a
 pos : 0 < a.n
 n3 : a.n <= 3
 can : restr a (fun _ => true) = a
 el : a.es.length <= 25
structure WfCel (c : Cel) : Prop where
 ev : ∀ i, i < 5 -> (c.ev i).Ok
 c0 : 0 < c.cs.length
 c3 : c.cs.length <= 3
 r2 : c.rs.length <= 2
 x2 : c.xs.length <= 2
 k1 : c.ks.length <= 1
 cn : c.cs.map (·.1) = List.range c.cs.length
 rn : c.rs.map (·.1) = List.range c.rs.length
 xn : (c.xs.map (·.1)).Pairwise (· < ·) /\ ∀ x ∈ c.xs, x.1 < 2
 ca : ∀ x ∈ c.cs, WfI x.2
 ra : ∀ x ∈ c.rs, WfI x.2
 rsub : ∀ x ∈ c.rs, ∀ e ∈ x.2.al, ∃ y ∈ c.cs, e ∈ y.2.al
 xl : ∀ x ∈ c.xs, x.2 ≠ [] /\ (x.2.map (·.1)).Pairwise (· < ·) /\ ∀ l ∈ x.2, ∃ y, c.cs[l.1]? = some y /\ l.2 < y.2.n
 kl : ∀ x ∈ c.ks, x.1 ≠ [] /\ (x.1.map (·.1)).Pairwise (· < ·) /\ (∀ t ∈ x.1, t.1 < c.cs.length /\ t.2 ≠ 0 /\ -4 < t.2 /\ t.2 < 4) /\ -8 < x.2 /\ x.2 < 8
theorem QkD {l : List Nat} (h : l.Pairwise (· < ·)) {p q : Nat} (hpq : p < q) (hq : q < l.length) : l.getD p 0 < l.getD q 0 := by
 rw [List.getD_eq_getElem?_getD, List.getD_eq_getElem?_getD, List.getElem?_eq_getElem (by omega), List.getElem?_eq_getElem hq]
 exact List.pairwise_iff_getElem.1 h p q (by omega) hq hpq
theorem partLt {n b : Nat} : ∀ x ∈ SD.part n b, x < n := fun x hx => (Qin.1 hx).1
theorem Qni {al : List Nat} {st mk : Nat} {T : List Nat} (hs : al.Pairwise (· < ·)) (h5 : ∀ x ∈ al, x < 5) : WfA (gRaw al st mk T) := by
 have hr := QdV (st := st) (mk := mk) (T := T) (Qcd hs h5)
 have hesn := hr.esn
 have hn5 := hr.n5
 unfold gRaw at hesn hn5 ⊢
 split
 ·exact ⟨hs, h5, by simp, by simp, by simp, by simp, by simp, by simp⟩
 ·rename_i hst
  rw [if_neg hst] at hesn hn5
  have hev : ∀ i, ∀ e ∈ gRow al (1 + st % 5) T i al.length, e.1 = i /\ ∃ j, j < al.length /\ e.2.1 = al.getD j 0 := fun i e he => by
   unfold gRow at he
   obtain ⟨j, hj, hm⟩ := List.mem_filterMap.1 he
   unfold gEd at hm
   split at hm
   ·cases hm; exact ⟨rfl, j, List.mem_range.1 hj, rfl⟩
   ·cases hm
  refine ⟨hs, h5, hn5, Qcw _ _, partLt, ?_, hesn, fun e he => ?_⟩
  ·show (gPre _ _ _ _).Pairwise _
   unfold gPre
   refine QbR (fun i _ => ?_) (List.pairwise_lt_range.imp fun hij x hx y hy => .inl ?_)
   ·unfold gRow
    refine List.Pairwise.filterMap _ (R := fun j j' => j < j' /\ j' < al.length) ?_ (List.pairwise_lt_range.imp_of_mem fun _ hb h => ⟨h, List.mem_range.1 hb⟩)
    rintro x y ⟨hxy, hy⟩ p hp q hq
    unfold gEd at hp hq
    split at hp
    ·split at hq
     ·cases hp; cases hq; exact .inr ⟨rfl, QkD hs hxy hy⟩
     ·cases hq
    ·cases hp
   ·rw [(hev _ x hx).1, (hev _ y hy).1]; exact hij
  ·unfold gPre at he
   obtain ⟨i, _, he⟩ := List.mem_flatMap.1 he
   obtain ⟨_, j, hj, hje⟩ := hev i e he
   show e.2.1 ∈ al
   rw [hje, List.getD_eq_getElem?_getD, List.getElem?_eq_getElem hj]
   exact List.getElem_mem hj
theorem Qnj {al : List Nat} {st mk : Nat} {T : List Nat} (hs : al.Pairwise (· < ·)) (h5 : ∀ x ∈ al, x < 5) : restr (mkA al st mk T) (fun _ => true) = mkA al st mk T := by
 have h := Qni (st := st) (mk := mk) (T := T) hs h5
 show restr (canon _) _ = canon _
 rw [Qje h]; exact Qja h
theorem QiK {es : List Ed} {s : Nat} : ∀ {L : List Nat} {out : List Nat}, out.length <= (L.foldl (fEv es s) out).length
 | [], out => Nat.le_refl _
 | e :: L, out => by
  rw [List.foldl_cons]
  refine Nat.le_trans ?_ (QiK (L := L))
  unfold fEv
  split
  ·split
   ·exact Nat.le_refl _
   ·simp
  ·exact Nat.le_refl _
theorem QlT {al : List Nat} {es : List Ed} : ∀ (k i : Nat) (out : List Nat), out.length <= (fQ al es k i out).length
 | 0, _, _ => Nat.le_refl _
 | k + 1, i, out => by
  unfold fQ
  split
  ·exact Nat.le_trans QiK (QlT k (i + 1) _)
  ·exact Nat.le_refl _
theorem Qj1 {al : List Nat} {st mk : Nat} {T : List Nat} (hs : al.Pairwise (· < ·)) (h5 : ∀ x ∈ al, x < 5) (h3 : st < 3) : WfI (mkA al st mk T) := by
 have hr := QdV (st := st) (mk := mk) (T := T) (Qcd hs h5)
 have e : gRaw al st mk T = ⟨al, 1 + st % 5, SD.part (1 + st % 5) mk, gPre al (1 + st % 5) T (1 + st % 5)⟩ := if_neg (by omega)
 have hn : (gRaw al st mk T).n <= 3 := by rw [e]; dsimp only; omega
 have hf : (found (gRaw al st mk T)).length <= (gRaw al st mk T).n := QaL _ _ (QdR hr.esn).1.nd (QdR hr.esn).1.lt
 have h1 := Qfu (gRaw al st mk T) (found (gRaw al st mk T)) (found (gRaw al st mk T)).length
 refine ⟨QnD hs h5, ?_, Nat.le_trans hf hn, Qnj hs h5, ?_⟩
 ·show 0 < (found (gRaw al st mk T)).length
  have h0 : 0 < (gRaw al st mk T).n := by rw [e]; dsimp only; omega
  unfold found
  rw [if_pos h0]
  exact Nat.lt_of_lt_of_le (by simp) (QlT _ _ _)
 ·have h2 : (mkA al st mk T).es.length = (cPre (gRaw al st mk T) (found (gRaw al st mk T)) (found (gRaw al st mk T)).length).length := rfl
  rw [h2]
  have h4 : (gRaw al st mk T).al.length <= 5 := by rw [e]; exact Qcd hs h5
  refine Nat.le_trans h1 (Nat.le_trans (Nat.mul_le_mul (Nat.le_trans hf hn) h4) (by decide))
structure Pln where
 L : List Nat
 X : List Nat
 xn : Nat
 f0 : Int
 f1 : Int
 f2 : Int
 bd : Int
structure POk (p : Pln) : Prop where
 L : p.L.length = 147
 L8 : ∀ x ∈ p.L, x < 256
 X : p.X.length = p.xn * 4
 X8 : ∀ x ∈ p.X, x < 256
 f0 : -128 <= p.f0 /\ p.f0 < 128
 f1 : -128 <= p.f1 /\ p.f1 < 128
 f2 : -128 <= p.f2 /\ p.f2 < 128
 bd : -128 <= p.bd /\ p.bd < 128
abbrev plnC (p : Pln) : List AV := u8s p.L ++ [.fsl (u8s p.X) p.xn 4, .int .i8 p.f0, .int .i8 p.f1, .int .i8 p.f2, .int .i8 p.bd]
abbrev plnV (p : Pln) : AV := .agg (plnC p)
variable (p : Pln)
def pN : Nat := 1 + p.L.getD 5 0 % 3
def pM : Nat := p.L.getD 90 0 % 3
def pA (i : Nat) : Aut := mkA (SD.part 5 (p.L.getD (6 + i) 0)) (p.L.getD (9 + i * 27) 0 % 3) (p.L.getD (9 + i * 27 + 1) 0) ((p.L.drop (9 + i * 27 + 2)).take 25)
def pAll : Nat -> Nat
 | 0 => 0
 | i + 1 => pAll i ||| p.L.getD (6 + i) 0 % 32
def pW (i : Nat) : List Nat := (SD.part 5 (p.L.getD (91 + i) 0)).filter fun x => (pAll p (pN p)).testBit x
def pR (i : Nat) : Aut := mkA (pW p i) (p.L.getD (93 + i * 27) 0 % 3) (p.L.getD (93 + i * 27 + 1) 0) ((p.L.drop (93 + i * 27 + 2)).take 25)
def pCs (n : Nat) : List (Nat × Aut) := (List.range n).map fun i => (i, pA p i)
def pRs (n : Nat) : List (Nat × Aut) := (List.range n).map fun i => (i, pR p i)
def pLo (i : Nat) : Nat -> List (Nat × Nat)
 | 0 => []
 | k + 1 => if p.X.getD (i * 4 + k) 0 % ((pA p k).n + 2) < (pA p k).n then pLo i k ++ [(k, p.X.getD (i * 4 + k) 0 % ((pA p k).n + 2))] else pLo i k
def pXs : Nat -> List (Nat × List (Nat × Nat))
 | 0 => []
 | i + 1 => if 0 < (pLo p i (pN p)).length then pXs i ++ [(i, pLo p i (pN p))] else pXs i
def pF (i : Nat) : Int := if i = 0 then p.f0 else if i = 1 then p.f1 else p.f2
def pT : Nat -> List (Nat × Int)
 | 0 => []
 | i + 1 => if pF p i = 0 then pT i else pT i ++ [(i, (pF p i).tmod 4)]
def pT0 : List (Nat × Int) := (pT p (pN p)).filter fun t => !(decide (t.2 = 0))
def pKs : List (List (Nat × Int) × Int) := if 0 < (pT0 p).length then [(pT0 p, p.bd.tmod 8)] else []
def mkC : Cel := ⟨fun i => evOf ((p.L.take 5).getD i 0), pCs p (pN p), pRs p (pM p), pXs p (min p.xn 2), pKs p⟩
variable {p}
theorem pN_le : 1 <= pN p /\ pN p <= 3 := by unfold pN; omega
theorem pM_le : pM p <= 2 := by unfold pM; omega
theorem Qhp (i : Nat) : (pW p i).Pairwise (· < ·) := (Qcw _ _).filter _
theorem pW_lt (i : Nat) : ∀ x ∈ pW p i, x < 5 := fun x hx => partLt x (List.mem_filter.1 hx).1
theorem pA_wf (i : Nat) : WfI (pA p i) := Qj1 (Qcw _ _) partLt (by omega)
theorem pR_wf (i : Nat) : WfI (pR p i) := Qj1 (Qhp i) (pW_lt i) (by omega)
theorem QlU {al : List Nat} {st mk : Nat} {T : List Nat} : (mkA al st mk T).al = al := by
 show (gRaw al st mk T).al = al
 unfold gRaw; split <;> rfl
theorem Qf9 {i : Nat} : ∀ {n : Nat}, ∀ x ∈ pLo p i n, x.1 < n /\ x.2 < (pA p x.1).n
 | 0, x, h => by cases h
 | n + 1, x, h => by
  unfold pLo at h
  split at h
  ·rename_i hc
   rcases List.mem_append.1 h with h | h
   ·have := Qf9 x h; exact ⟨by omega, this.2⟩
   ·simp at h; subst h; exact ⟨Nat.lt_succ_self _, hc⟩
  ·have := Qf9 x h; exact ⟨by omega, this.2⟩
theorem QdX {i : Nat} : ∀ {n : Nat}, ((pLo p i n).map (·.1)).Pairwise (· < ·)
 | 0 => by simp [pLo]
 | n + 1 => by
  unfold pLo
  split
  ·rw [List.map_append, List.pairwise_append]
   refine ⟨QdX, by simp, fun x hx y hy => ?_⟩
   simp at hy; subst hy
   obtain ⟨z, hz, rfl⟩ := List.mem_map.1 hx
   exact (Qf9 z hz).1
  ·exact QdX
theorem Qew : ∀ {n : Nat}, ∀ x ∈ pXs p n, x.1 < n /\ x.2 = pLo p x.1 (pN p) /\ x.2 ≠ []
 | 0, x, h => by cases h
 | n + 1, x, h => by
  unfold pXs at h
  split at h
  ·rename_i hc
   rcases List.mem_append.1 h with h | h
   ·have := Qew x h; exact ⟨by omega, this.2⟩
   ·simp at h; subst h; exact ⟨Nat.lt_succ_self _, rfl, List.ne_nil_of_length_pos hc⟩
  ·have := Qew x h; exact ⟨by omega, this.2⟩
theorem QdY : ∀ {n : Nat}, ((pXs p n).map (·.1)).Pairwise (· < ·)
 | 0 => by simp [pXs]
 | n + 1 => by
  unfold pXs
  split
  ·rw [List.map_append, List.pairwise_append]
   refine ⟨QdY, by simp, fun x hx y hy => ?_⟩
   simp at hy; subst hy
   obtain ⟨z, hz, rfl⟩ := List.mem_map.1 hx
   exact (Qew z hz).1
  ·exact QdY
theorem Qgp : ∀ {n : Nat}, (pXs p n).length <= n
 | 0 => by simp [pXs]
 | n + 1 => by
  have := @Qgp n
  unfold pXs
  split
  ·simp; omega
  ·omega
theorem Qgq {i : Nat} : ∀ {n : Nat}, (pLo p i n).length <= n
 | 0 => by simp [pLo]
 | n + 1 => by
  have := @Qgq i n
  unfold pLo
  split
  ·simp; omega
  ·omega
theorem QiL : ∀ {n : Nat}, (pT p n).length <= n
 | 0 => by simp [pT]
 | n + 1 => by
  have := @QiL n
  unfold pT
  split
  ·omega
  ·simp; omega
theorem pT_lt : ∀ {n : Nat}, ∀ x ∈ pT p n, x.1 < n /\ -4 < x.2 /\ x.2 < 4
 | 0, x, h => by cases h
 | n + 1, x, h => by
  unfold pT at h
  split at h
  ·have := pT_lt x h; exact ⟨by omega, this.2⟩
  ·rcases List.mem_append.1 h with h | h
   ·have := pT_lt x h; exact ⟨by omega, this.2⟩
   ·simp at h; subst h
    refine ⟨Nat.lt_succ_self _, ?_, ?_⟩
    ·have := Int.lt_tmod_of_pos (pF p n) (show (0 : Int) < 4 by decide); dsimp only; omega
    ·exact Int.tmod_lt_of_pos (pF p n) (show (0 : Int) < 4 by decide)
theorem Qex : ∀ {n : Nat}, ((pT p n).map (·.1)).Pairwise (· < ·)
 | 0 => by simp [pT]
 | n + 1 => by
  unfold pT
  split
  ·exact Qex
  ·rw [List.map_append, List.pairwise_append]
   refine ⟨Qex, by simp, fun x hx y hy => ?_⟩
   simp at hy; subst hy
   obtain ⟨z, hz, rfl⟩ := List.mem_map.1 hx
   exact (pT_lt z hz).1
theorem QiM {e : Nat} : ∀ {n : Nat}, (pAll p n).testBit e = true -> e < 5 -> ∃ i, i < n /\ (p.L.getD (6 + i) 0).testBit e = true
 | 0, h, _ => by simp [pAll] at h
 | n + 1, h, h5 => by
  unfold pAll at h
  rw [Nat.testBit_or, Bool.or_eq_true] at h
  rcases h with h | h
  ·obtain ⟨i, hi, h⟩ := QiM h h5; exact ⟨i, by omega, h⟩
  ·rw [show 32 = 2 ^ 5 from rfl, Nat.testBit_mod_two_pow] at h
   simp at h
   exact ⟨n, Nat.lt_succ_self _, h.2⟩
theorem QlV {n i : Nat} (h : i < n) : (pCs p n)[i]? = some (i, pA p i) := by
 unfold pCs
 rw [List.getElem?_map, List.getElem?_range h]; rfl
theorem QnK : WfCel (mkC p) := by
 have h1 := @pN_le p
 have h2 := @pM_le p
 have hc : (pCs p (pN p)).length = pN p := by simp [pCs]
 have hr : (pRs p (pM p)).length = pM p := by simp [pRs]
 have hx := @Qgp p (min p.xn 2)
 refine ⟨fun i _ => Qnh _, ?_, ?_, ?_, ?_, ?_, ?_, ?_, ⟨QdY, fun x hx => ?_⟩, fun x hx => ?_, fun x hx => ?_, fun x hx e he => ?_, fun x hx => ?_, fun x hx => ?_⟩
 ·show 0 < (pCs p (pN p)).length
  omega
 ·show (pCs p (pN p)).length <= 3
  omega
 ·show (pRs p (pM p)).length <= 2
  omega
 ·show (pXs p _).length <= 2
  omega
 ·show (pKs p).length <= 1
  unfold pKs; split <;> simp
 ·show (pCs p (pN p)).map (·.1) = List.range (pCs p (pN p)).length
  rw [hc]
  simp [pCs, List.map_map, Function.comp_def]
 ·show (pRs p (pM p)).map (·.1) = List.range (pRs p (pM p)).length
  rw [hr]
  simp [pRs, List.map_map, Function.comp_def]
 ·have := (Qew x hx).1; omega
 ·obtain ⟨i, _, rfl⟩ := List.mem_map.1 (show x ∈ pCs p (pN p) from hx)
  exact pA_wf i
 ·obtain ⟨i, _, rfl⟩ := List.mem_map.1 (show x ∈ pRs p (pM p) from hx)
  exact pR_wf i
 ·obtain ⟨i, _, rfl⟩ := List.mem_map.1 (show x ∈ pRs p (pM p) from hx)
  dsimp only at he
  rw [show (pR p i).al = pW p i from QlU] at he
  obtain ⟨h5, hb⟩ := List.mem_filter.1 he
  obtain ⟨j, hj, hb⟩ := QiM hb (partLt e h5)
  refine ⟨(j, pA p j), List.mem_map.2 ⟨j, List.mem_range.2 hj, rfl⟩, ?_⟩
  dsimp only
  rw [show (pA p j).al = SD.part 5 (p.L.getD (6 + j) 0) from QlU]
  exact Qin.2 ⟨partLt e h5, hb⟩
 ·obtain ⟨_, h4, h5⟩ := Qew x hx
  refine ⟨h5, by rw [h4]; exact QdX, fun l hl => ?_⟩
  rw [h4] at hl
  obtain ⟨h6, h7⟩ := Qf9 l hl
  exact ⟨_, QlV h6, h7⟩
 ·have hx' : x ∈ pKs p := hx
  unfold pKs at hx'
  split at hx'
  ·rename_i h0
   simp at hx'; subst hx'
   refine ⟨List.ne_nil_of_length_pos h0, ?_, fun t ht => ?_, ?_, ?_⟩
   ·exact (Qex (n := pN p)).sublist (List.Sublist.map _ (List.filter_sublist))
   ·obtain ⟨h3, h4⟩ := List.mem_filter.1 (show t ∈ pT0 p from ht)
    have h5 := pT_lt t h3
    have h6 : (mkC p).cs.length = pN p := hc
    exact ⟨by omega, by simpa using h4, h5.2⟩
   ·have := Int.lt_tmod_of_pos p.bd (show (0 : Int) < 8 by decide); dsimp only; omega
   ·exact Int.tmod_lt_of_pos p.bd (show (0 : Int) < 8 by decide)
  ·cases hx'
end Go.AM.SO
namespace Go.AM.SU
open Go.Proofs Go.AM.SD Go.AM.SE Go.AM.SO
theorem QaH (l : List (Nat × Int)) : noRefs (l.flatMap teC) = true := QaV (fun _ => rfl) l
theorem QcD (l : List (Nat × Int)) : (l.flatMap teC).length = l.length * 2 := Qcm (k := 2) (fun _ => rfl) l
theorem QcR {l : List (Nat × Int)} {i : Nat} {x : Nat × Int} (h : l[i]? = some x) : (l.flatMap teC).drop (i * 2) = .int .i64 (x.1 : Int) :: .int .i64 x.2 :: (l.drop (i + 1)).flatMap teC := Qbn (f := teC) (k := 2) (fun _ => rfl) h
theorem QlW {x : Nat × Int} : ∀ {l : List (Nat × Int)} {i : Nat}, i < l.length -> (l.flatMap teC).take (i * 2) ++ [.int .i64 (x.1 : Int), .int .i64 x.2] ++ (l.flatMap teC).drop (i * 2 + 2) = (l.set i x).flatMap teC
 | [], i, h => by simp at h
 | a :: l, 0, h => by simp [List.flatMap_cons, teC]
 | a :: l, i + 1, h => by
  have := QlW (x := x) (l := l) (i := i) (by simpa using h)
  rw [List.set_cons_succ, List.flatMap_cons, List.flatMap_cons, <- this]
  rw [show (i + 1) * 2 = i * 2 + 2 by omega]
  simp [teC]
abbrev teV (x : Nat × Int) : AV := .agg [.int .i64 (x.1 : Int), .int .i64 x.2]
theorem zero94 (x : Nat × Int) : PSpec Tryz.prog 94 [teV x] (.bool (decide (x.2 = 0))) := by
 refine PSpec.Qar 64 ok94 rfl rfl rfl ?_
 simp (disch := first | omega | (simp only [lenW] <;> omega)) only [s94, Bool.not_eq_true, wW, wV, simprocAttr]
 exact ⟨.inr trivial, _, rfl, rfl⟩
def fst0 (l : List (Nat × Int)) : Int := if l.all (fun x => !decide (x.2 = 0)) then -1 else (l.findIdx (fun x => decide (x.2 = 0)) : Int)
theorem _root_.Go.AM.au11 {p : Prop} (h : p := by repeat' (first | exact RB.nil | (refine RnL.same ?_; first | rfl | (simp only [noRef, noRefs, Qak, Bool.and_self, Bool.and_true, Bool.true_and, Qaa, QaB, Qac, QaH]; done)) | exact RnM.keyM rfl | exact RnL.nil | exact (True.intro : RnM _ _ _ [] []) | refine RnL.cons ?_ ?_ | (refine Rn.same ?_; first | rfl | (simp only [noRef, noRefs, Qak, Bool.and_self, Bool.and_true, Bool.true_and, Qaa, QaB, Qac, QaH]; done)) | exact Rn.x1 rfl rfl | exact Rn.x2 rfl rfl | exact Rn.x3 rfl rfl | exact Rn.x4 rfl rfl | exact Rn.x5 rfl | exact Rn.x6 rfl | exact Rn.x7 rfl | refine RB.newnil rfl rfl ?_ | refine RB.cells rfl rfl rfl ?_ ?_ | refine RB.map rfl rfl rfl ?_ ?_ | refine RB.cellsB rfl rfl ?_ ?_ | refine RB.mapB rfl rfl ?_ ?_)) : p := h
theorem _root_.Go.AM.au12 {p : Prop} (h : p := by repeat (first | exact RT.nil | (refine RT.cons ?_ ?_; · (first | exact Rn.any | exact Rn.x1 rfl rfl | exact Rn.x2 rfl rfl | exact Rn.x3 rfl rfl | exact Rn.x4 rfl rfl | exact Rn.x5 rfl | exact Rn.x6 rfl | exact Rn.x7 rfl | (refine Rn.slot ?_ ?_; (first | rfl | (rw [Int.natCast_add]; rfl)); (first | rfl | (simp only [noRef, noRefs, Qak, Bool.and_self, Bool.and_true, Bool.true_and, Qaa, QaB, Qac, QaH]; done))) | (refine Rn.fn ?_ ?_ <;> (repeat' (first | exact RnL.nil | refine RnL.cons ?_ ?_ | exact Rn.same rfl | exact Rn.x6 rfl | exact Rn.x2 rfl rfl | exact Rn.x5 rfl | exact Rn.x1 rfl rfl))))))) : p := h
theorem index186 (l : List (Nat × Int)) (hl : l.length <= 1000000) : PSpec Tryz.prog 186 [tes l, .fn 94 [] []] (.int .i64 (fst0 l)) := by
  refine PSpec.Qar 64 ok186 rfl (by simp only [noRefs, noRef, QaH]; rfl) rfl ?_
  have hln := QcD l
  simp (disch := first | omega | (simp only [lenW] <;> omega)) only [s186, Bool.not_eq_true, wW, wV, simprocAttr]
  refine QaE 100 (fun i : Nat => [(0, tes l), (1, .fn 94 [] []), (7, .int .i64 l.length), (8, .int .i64 i)]) (fun _ => []) (fun i => i <= l.length /\ ∀ (j : Nat) y, j < i -> l[j]? = some y -> y.2 ≠ 0) (fun i => l.length - i) 0 ⟨[], rfl, au0, au11, au12⟩ ⟨Nat.zero_le _, fun j y hj => absurd hj (Nat.not_lt_zero _)⟩ ?_
  rintro i ⟨hi, hb⟩
  by_cases hlt : i < l.length
  · obtain ⟨x, hx⟩ := Qap hlt
    have hn := zero94 x
    by_cases h0 : x.2 = 0
    · have e : decide (x.2 = 0) = true := by simp [h0]
      rw [e] at hn
      simp (disch := first | omega | (simp only [lenW] <;> omega)) only [hlt, QcR hx, Bool.not_eq_true, wW, wV, simprocAttr]
      refine cpc hn ?_
      simp (disch := first | omega | (simp only [lenW] <;> omega)) only [Bool.not_eq_true, wW, wV, simprocAttr]
      refine ⟨.inr trivial, _, rfl, ?_⟩
      have h1 : ¬ l.all (fun x => !decide (x.2 = 0)) = true := by
        intro h; have := List.all_eq_true.1 h x (List.mem_of_getElem? hx); simp [h0] at this
      have h2 : l.findIdx (fun x => decide (x.2 = 0)) = i := by
        rw [List.findIdx_eq hlt]
        refine ⟨by rw [List.getElem?_eq_getElem hlt] at hx; cases hx; simp [h0], fun j hj => ?_⟩
        have := hb j l[j] hj (List.getElem?_eq_getElem (by omega))
        simpa using this
      unfold fst0
      rw [if_neg h1, h2]; rfl
    · have e : decide (x.2 = 0) = false := by simp [h0]
      rw [e] at hn
      simp (disch := first | omega | (simp only [lenW] <;> omega)) only [hlt, QcR hx, Bool.not_eq_true, wW, wV, simprocAttr]
      refine cpc hn ?_
      simp (disch := first | omega | (simp only [lenW] <;> omega)) only [Bool.not_eq_true, wW, wV, simprocAttr]
      refine ⟨i + 1, by omega, ⟨by omega, fun j y hj hy => ?_⟩, ⟨[], rfl, au0, au11, au12⟩⟩
      by_cases e : j = i
      · subst e; rw [hx] at hy; cases hy; exact h0
      · exact hb j y (by omega) hy
  · have h1 : l.all (fun x => !decide (x.2 = 0)) = true := by
      rw [List.all_eq_true]
      intro x hx
      obtain ⟨j, hj, hjl⟩ := List.getElem_of_mem hx
      simpa using hb j x (by omega) (by rw [List.getElem?_eq_getElem hj, hjl])
    simp (disch := first | omega | (simp only [lenW] <;> omega)) only [hlt, Bool.not_eq_true, wW, wV, simprocAttr]
    refine ⟨.inr trivial, _, rfl, ?_⟩
    unfold fst0
    rw [if_pos h1]; rfl
def flt0 (l : List (Nat × Int)) : List (Nat × Int) := l.filter fun t => !(decide (t.2 = 0))
theorem Qhq {l : List (Nat × Int)} {j : Nat} {v : Nat × Int} (h : l[j]? = some v) : flt0 (l.take (j + 1)) = if v.2 = 0 then flt0 (l.take j) else flt0 (l.take j) ++ [v] := by
 unfold flt0
 rw [List.take_add_one, h, Option.toList, List.filter_append]
 by_cases hv : v.2 = 0 <;> simp [hv]
def delT (l : List (Nat × Int)) : List (Nat × Int) := flt0 l ++ List.replicate (l.length - (flt0 l).length) (0, 0)
theorem QmE {l : List (Nat × Int)} (h : l.all (fun x => !decide (x.2 = 0)) = true) : flt0 l = l := by
 unfold flt0
 exact List.filter_eq_self.2 fun x hx => List.all_eq_true.1 h x hx
theorem QlX {k : Nat} : (List.replicate k [AV.int .i64 0, AV.int .i64 0]).flatten = (List.replicate k ((0, 0) : Nat × Int)).flatMap teC := by
 induction k with
 | zero => rfl
 | succ k ih => rw [List.replicate_succ, List.flatten_cons, ih]; rfl
theorem Qgr : ∀ {l : List (Nat × Int)} {i : Nat}, (l.flatMap teC).take (i * 2) = (l.take i).flatMap teC
 | [], i => by simp
 | a :: l, 0 => by simp
 | a :: l, i + 1 => by
  rw [List.flatMap_cons, List.take_succ_cons, List.flatMap_cons, <- Qgr, Nat.succ_mul]
  simp [teC]
theorem del93 (l : List (Nat × Int)) (hl : l.length <= 1000000) :
    HSpec Tryz.prog 93 [.sl 97 0 0 l.length 2, .fn 94 [] []] (hp [(97, .cells 0 (l.flatMap teC))]) (.sl 97 0 0 (flt0 l).length 2) (hp [(97, .cells 0 ((delT l).flatMap teC))]) := by
  refine HSpec.QjW (m := 98) 100 ok93 rfl rfl ?_
  have hn := QcD l
  simp (disch := first | omega | (simp only [lenW] <;> omega)) only [s93, Bool.not_eq_true, wW, wV, simprocAttr]
  refine chc (HSpec.lend (FrzL.cons (FrzTo.all gg hn) (FrzL.cons (FrzTo.same _) FrzL.nil)) (index186 l hl) rfl) ?_
  by_cases hall : l.all (fun x => !decide (x.2 = 0)) = true
  · have e1 : fst0 l = -1 := if_pos hall
    simp (disch := first | omega | (simp only [lenW] <;> omega)) only [e1, Bool.not_eq_true, wW, wV, simprocAttr]
    refine ⟨.inr trivial, _, rfl, ?_⟩
    unfold delT; rw [QmE hall, Nat.sub_self, List.replicate_zero, List.append_nil]
    exact ⟨[(97, .nil)], rfl, au0, au11, au12⟩
  have e1 : fst0 l = (l.findIdx (fun x => decide (x.2 = 0)) : Int) := if_neg hall
  have hex : ∃ x ∈ l, decide (x.2 = 0) = true := by
    have : ¬ ∀ x ∈ l, (!decide (x.2 = 0)) = true := fun h => hall (List.all_eq_true.2 h)
    obtain ⟨x, hx⟩ := Classical.not_forall.1 this
    obtain ⟨hx, hy⟩ := Classical.not_imp.1 hx
    exact ⟨x, hx, by simpa using hy⟩
  have hi0 : l.findIdx (fun x => decide (x.2 = 0)) < l.length := List.findIdx_lt_length_of_exists hex
  obtain ⟨i0, hI⟩ : ∃ i0, i0 = l.findIdx (fun x => decide (x.2 = 0)) := ⟨_, rfl⟩
  rw [<- hI] at e1 hi0
  have hv0 : (l[i0]).2 = 0 := by
    have := List.findIdx_getElem (w := by rw [<- hI]; exact hi0) (xs := l) (p := fun x => decide (x.2 = 0))
    simp only [<- hI] at this
    simpa using this
  have hlow : flt0 (l.take i0) = l.take i0 := by
    unfold flt0
    refine List.filter_eq_self.2 fun x hx => ?_
    obtain ⟨j, hj, rfl⟩ := List.getElem_of_mem hx
    rw [List.length_take] at hj
    have := List.not_of_lt_findIdx (xs := l) (p := fun x => decide (x.2 = 0)) (i := j) (by rw [<- hI]; omega)
    rw [List.getElem_take]
    simpa using this
  have hst : flt0 (l.take (i0 + 1)) = l.take i0 := by
    rw [Qhq (List.getElem?_eq_getElem hi0), if_pos hv0, hlow]
  have hne : ¬ (i0 : Int) = -1 := by omega
  simp (disch := first | omega | (simp only [lenW] <;> omega)) only [e1, hne, Bool.not_eq_true, wW, wV, simprocAttr]
  refine QaE 110 (fun t : Nat × Nat × List (Nat × Int) => [(0, .sl 97 0 0 l.length 2), (1, .fn 94 [] []), (5, .int .i64 t.2.1), (6, .int .i64 t.1)])
    (fun t => [(97, .cells 0 (t.2.2.flatMap teC))]) (fun t => t.1 <= l.length /\ t.2.1 < t.1 /\ t.2.2.length = l.length /\ t.2.2.take t.2.1 = flt0 (l.take t.1) /\ t.2.2.drop t.1 = l.drop t.1) (fun t => l.length - t.1)
    (i0 + 1, i0, l) ⟨[(97, .nil)], rfl, au0, au11, au12⟩ ⟨by dsimp only; omega, by dsimp only; omega, rfl, hst.symm, rfl⟩ ?_
  rintro ⟨j, i, C⟩ ⟨hj, hij, hC, hT, hD⟩
  dsimp only at hj hij hC hT hD ⊢
  have hCl := QcD C
  by_cases hlt : j < l.length
  · obtain ⟨v, hv⟩ := Qap hlt
    have hvC : C[j]? = some v := by
      have : (C.drop j)[0]? = (l.drop j)[0]? := by rw [hD]
      simpa [hv] using this
    have hs := Qhq hv
    have hn2 := zero94 v
    have g1 : j * 2 + 2 <= l.length * 2 := by omega
    have g2 : i * 2 + 2 <= l.length * 2 := by omega
    by_cases hm : v.2 = 0
    · have e2 : decide (v.2 = 0) = true := by simp [hm]
      rw [e2] at hn2
      rw [if_pos hm] at hs
      simp (disch := first | omega | (simp only [lenW] <;> omega)) only [hlt, hC, hCl, g1, QcR hvC, Bool.not_eq_true, wW, wV, simprocAttr]
      refine chc (hn2.toH _) ?_
      simp (disch := first | omega | (simp only [lenW] <;> omega)) only [Bool.not_eq_true, wW, wV, simprocAttr]
      refine ⟨(j + 1, i, C), by dsimp only; omega, ⟨by dsimp only; omega, by dsimp only; omega, hC, by rw [hs]; exact hT, ?_⟩, ?_⟩
      · dsimp only
        have := congrArg (List.drop 1) hD
        simpa [List.drop_drop] using this
      · exact ⟨[(97, .nil)], rfl, au0, au11, au12⟩
    · have e2 : decide (v.2 = 0) = false := by simp [hm]
      rw [e2] at hn2
      rw [if_neg hm] at hs
      simp (disch := first | omega | (simp only [lenW] <;> omega)) only [hlt, hC, hCl, g1, QcR hvC, Bool.not_eq_true, wW, wV, simprocAttr]
      refine chc (hn2.toH _) ?_
      have hil : i < l.length := by omega
      simp (disch := first | omega | (simp only [lenW] <;> omega)) only [hil, hC, hCl, g2, QlW (l := C) (i := i) (x := v) (by omega), Bool.not_eq_true, wW, wV, simprocAttr]
      refine ⟨(j + 1, i + 1, C.set i v), by dsimp only; omega, ⟨by dsimp only; omega, by dsimp only; omega, by simp [hC], ?_, ?_⟩, ?_⟩
      · dsimp only
        rw [hs, <- hT, List.take_add_one, List.getElem?_set_self (by omega), List.take_set, List.set_eq_of_length_le (by rw [List.length_take]; omega)]; rfl
      · dsimp only
        rw [List.drop_set_of_lt (by omega)]
        have := congrArg (List.drop 1) hD
        simpa [List.drop_drop] using this
      · exact ⟨[(97, .nil)], rfl, au0, au11, au12⟩
  · have ej : j = l.length := by omega
    subst ej
    rw [List.take_length] at hT
    have hil : (i : Int) <= (l.length : Int) := by omega
    simp (disch := first | omega | (simp only [lenW] <;> omega)) only [hlt, hil, Bool.not_eq_true, wW, wV, simprocAttr]
    refine QiC gg (by omega) (by rw [hCl, hC]; omega) rfl (by decide) (by decide) ?_
    simp (disch := first | omega | (simp only [lenW] <;> omega)) only [hil, Bool.not_eq_true, wW, wV, simprocAttr]
    refine ⟨.inr trivial, _, rfl, ?_⟩
    have hfl : (flt0 l).length = i := by rw [<- hT, List.length_take]; omega
    have hput : putR (C.flatMap teC) (i * 2) (List.replicate (l.length - i) [AV.int .i64 0, AV.int .i64 0]).flatten = (delT l).flatMap teC := by
      rw [Qdp (by rw [hCl, hC]; omega), QlX, Qgr, hT]
      unfold delT
      rw [hfl, List.flatMap_append, List.drop_of_length_le (by rw [hCl, hC, QcD, List.length_replicate]; omega), List.append_nil]
    rw [hfl, hput]
    exact ⟨[(97, .nil)], rfl, au0, au11, au12⟩
end Go.AM.SU
namespace Go.AM.SO
open Go.Proofs Go.AM.SD Go.AM.SE
theorem convB1 {P : Program} {N : NM} {d : Option Nat} {r : List SOper} {dead : List Nat} {fs : List Fr} {n : Nat} {T : Tmps} {h : Heap} {Q : QC} {b g x : Nat} (hb : h.get b = some (.cells g [.int .u8 (x : Int)]))
  (hk : wR P N r dead fs (n + 1) (putD T d (.str [UInt8.ofNat x])) h Q) : wM P N (aConvB (.sl b g 0 1 1)) d r dead fs n T h Q := by
 refine ⟨_, h, ?_, hk⟩
 have hg : Nat.beq g g = true := by simp
 simp [aConvB, aSrc, HM.cells, HM.run, hb, hg, bytesOf]
theorem Qce (F : List Nat) (i : Nat) : noRefs (evP F i) = true := by
 unfold evP
 exact QaV (fun j => rfl) _
theorem _root_.Go.AM.au13 {p : Prop} (h : p := by repeat (first | exact RT.nil | (refine RT.cons ?_ ?_; · (first | exact Rn.any | exact Rn.x1 rfl rfl | exact Rn.x2 rfl rfl | exact Rn.x3 rfl rfl | exact Rn.x4 rfl rfl | exact Rn.x5 rfl | exact Rn.x6 rfl | exact Rn.x7 rfl | (refine Rn.slot ?_ ?_; (first | rfl | (rw [Int.natCast_add]; rfl)); (first | rfl | (simp only [noRef, noRefs, Qak, Bool.and_self, Bool.and_true, Bool.true_and, Qaa, QaB, Qac, Qaq]; done))) | (refine Rn.fn ?_ ?_ <;> (repeat' (first | exact RnL.nil | refine RnL.cons ?_ ?_ | exact Rn.same rfl | exact Rn.x6 rfl | exact Rn.x2 rfl rfl | exact Rn.x5 rfl | exact Rn.x1 rfl rfl))))))) : p := h
theorem events88 (F : List Nat) (hF : F.length = 5) (h256 : ∀ i, F.getD i 0 < 256) : PSpec Tryz.prog 88 [.agg (u8s F)] (.fsl (evP F 5) 5 5) := by
  refine PSpec.of_rn 64 ok88 rfl (by simp only [noRefs, noRef, Qaq]; rfl) (by simp only [noRef]; exact Qce _ _) ?_
  simp (disch := first | omega | exact PairsOK.mk rfl | (simp only [lenW] <;> omega)) only [s88, wW, wV, simprocAttr]
  refine QaE 100 (fun i : Nat => [(1, .ptr 64 0 0), (3, .sl 50 0 0 i 5), (4, .int .i64 i)]) (fun i => [(50, .cells 0 (evP F i)), (64, .cells 0 (u8s F))]) (fun i => i <= 5) (fun i => 5 - i) 0 ⟨[(50, .nil), (64, .blk 64 0)], rfl, au0, ?_, au13⟩ (Nat.zero_le _) ?_
  · exact RB.newnil rfl rfl (RB.cells rfl rfl rfl (RnL.same (Qaq _)) RB.nil)
  rintro i hi
  by_cases hlt : i < 5
  · have hlt2 : (i : Int) < 5 := by omega
    have hu : (u8s F)[i]? = some (.int .u8 ((F.getD i 0 : Nat) : Int)) := Qf5 (by rw [List.getElem?_eq_getElem (by omega)]; simp [List.getD, List.getElem?_eq_getElem (show i < F.length by omega)])
    have hb := h256 i
    have hs := @QiJ F i
    have hl := @Qgo F i
    generalize F.getD i 0 = b at hu hb hs
    have e97 : wr .u8 ((97 : Int) + (i : Int)) = ((97 + i : Nat) : Int) := by rw [wr_u8 (by omega) (by omega)]; omega
    simp (disch := first | omega | exact PairsOK.mk rfl | (simp only [lenW] <;> omega)) only [hlt2, hu, hl, e97, Qmj, wW, wV, simprocAttr]
    refine convB1 gg ?_
    have k1 : ((97 + i : Nat) : Int) = ((97 + i : Nat) : Int) := rfl
    by_cases h48 : 48 <= b /\ b < 52
    · have k2 : (48 : Int) <= (b : Int) := by omega
      have k3 : (b : Int) < 52 := by omega
      have k4 : (b : Int) - 47 = ((b - 47 : Nat) : Int) := by omega
      have ev : evP F i ++ [.str [UInt8.ofNat (97 + i)], .bool false, .bool false, .bool false, .int .i64 ((b - 47 : Nat) : Int)] = evP F (i + 1) := by
        rw [hs]; simp [evC, evOf, h48]
      simp (disch := first | omega | exact PairsOK.mk rfl | (simp only [lenW] <;> omega)) only [hlt2, hu, hl, k2, k3, k4, wW, wV, simprocAttr]
      refine ⟨i + 1, by omega, by omega, ?_⟩
      rw [ev]
      refine ⟨[(50, .blk 50 1), (64, .blk 64 0)], rfl, au0, ?_, au13⟩
      exact RB.cells rfl rfl gg (RnL.same (Qce _ _)) (RB.cells rfl rfl gg (RnL.same (Qaq _)) RB.nil)
    · have ev : evP F i ++ [.str [UInt8.ofNat (97 + i)], .bool (decide (b &&& 1 = 1)), .bool (decide (b &&& 2 = 2)), .bool (decide (b &&& 4 = 4)), .int .i64 0] = evP F (i + 1) := by
        rw [hs]; simp [evC, evOf, h48]
      have d1 : decide (((b &&& 1 : Nat) : Int) = 1) = decide (b &&& 1 = 1) := decide_eq_decide.2 (by omega)
      have d2 : decide (((b &&& 2 : Nat) : Int) = 2) = decide (b &&& 2 = 2) := decide_eq_decide.2 (by omega)
      have d4 : decide (((b &&& 4 : Nat) : Int) = 4) = decide (b &&& 4 = 4) := decide_eq_decide.2 (by omega)
      have a1 := QlQ hb
      have a2 := QlR hb
      have a4 := QlS hb
      by_cases h5 : 48 <= b
      · have k3 : (48 : Int) <= (b : Int) := by omega
        have k4 : ¬ (b : Int) < 52 := by omega
        simp (disch := first | omega | exact PairsOK.mk rfl | (simp only [lenW] <;> omega)) only [hlt2, hu, hl, k3, k4, a1, a2, a4, d1, d2, d4, wW, wV, simprocAttr]
        refine ⟨i + 1, by omega, by omega, ?_⟩
        rw [ev]
        refine ⟨[(50, .blk 50 1), (64, .blk 64 0)], rfl, au0, ?_, au13⟩
        exact RB.cells rfl rfl gg (RnL.same (Qce _ _)) (RB.cells rfl rfl gg (RnL.same (Qaq _)) RB.nil)
      · have k3 : ¬ (48 : Int) <= (b : Int) := by omega
        simp (disch := first | omega | exact PairsOK.mk rfl | (simp only [lenW] <;> omega)) only [hlt2, hu, hl, k3, a1, a2, a4, d1, d2, d4, wW, wV, simprocAttr]
        refine ⟨i + 1, by omega, by omega, ?_⟩
        rw [ev]
        refine ⟨[(50, .blk 50 1), (64, .blk 64 0)], rfl, au0, ?_, au13⟩
        exact RB.cells rfl rfl gg (RnL.same (Qce _ _)) (RB.cells rfl rfl gg (RnL.same (Qaq _)) RB.nil)
  · have hlt2 : ¬ (i : Int) < 5 := by omega
    have e : i = 5 := by omega
    subst e
    simp (disch := first | omega | exact PairsOK.mk rfl | (simp only [lenW] <;> omega)) only [hlt2, wW, wV, simprocAttr]
    refine ⟨.inr trivial, _, rfl, ?_⟩
    exact Rn.fz0 rfl Qgo (RnL.same (Qce _ _))
end Go.AM.SO
namespace Go.AM.ST
open Go.Proofs Go.AM.SD
noncomputable section
def bitsL (s : Nat) : List Nat := (List.range 5).filter fun i => s.testBit i
def isV (v : AV) (u : AV) : Bool := eqAV u v
theorem QlY {v : AV} : ∀ u, isV v u = true -> u = v := fun u h => QcM _ _ h
def unionB (a b : Nat) : Bool := callR ansB noOrc SK.ft.get (exR ansB noOrc SK.ft.get 1000) (.c .pure) 90 [sliN (bitsL a), sliN (bitsL b)] .e 64 (fun u _ _ => isV (sliN (bitsL (a ||| b))) u)
theorem QmF {a b : Nat} (h : unionB a b = true) : PSpec Tryz.prog 90 [sliN (bitsL a), sliN (bitsL b)] (sliN (bitsL (a ||| b))) :=
 Qbt (t := SK.ft) SK.ft_ok Qc9 (d := 1000) (isV _) QlY h
end
end Go.AM.ST
namespace Go.AM.ST
open Go.Proofs Go.AM.SD
noncomputable section
def rowB (a n : Nat) : Bool := @Nat.rec (fun _ => Bool) true (fun b ih => ifB (unionB a b) ih false) n
theorem row_1 : rowB 1 32 = true := by kernel_rfl
theorem row_2 : rowB 2 32 = true := by kernel_rfl
theorem row_3 : rowB 3 32 = true := by kernel_rfl
theorem row_4 : rowB 4 32 = true := by kernel_rfl
theorem row_5 : rowB 5 32 = true := by kernel_rfl
theorem row_6 : rowB 6 32 = true := by kernel_rfl
theorem row_7 : rowB 7 32 = true := by kernel_rfl
theorem row_8 : rowB 8 32 = true := by kernel_rfl
theorem row_9 : rowB 9 32 = true := by kernel_rfl
theorem QnL : rowB 10 32 = true := by kernel_rfl
theorem QnM : rowB 11 32 = true := by kernel_rfl
theorem QnN : rowB 12 32 = true := by kernel_rfl
theorem QnO : rowB 13 32 = true := by kernel_rfl
theorem QnP : rowB 14 32 = true := by kernel_rfl
theorem QnQ : rowB 15 32 = true := by kernel_rfl
theorem QnR : rowB 16 32 = true := by kernel_rfl
theorem QnS : rowB 17 32 = true := by kernel_rfl
theorem QnT : rowB 18 32 = true := by kernel_rfl
theorem QnU : rowB 19 32 = true := by kernel_rfl
theorem QnV : rowB 20 32 = true := by kernel_rfl
theorem QnW : rowB 21 32 = true := by kernel_rfl
theorem QnX : rowB 22 32 = true := by kernel_rfl
theorem QnY : rowB 23 32 = true := by kernel_rfl
theorem QnZ : rowB 24 32 = true := by kernel_rfl
theorem Qn0 : rowB 25 32 = true := by kernel_rfl
theorem Qn1 : rowB 26 32 = true := by kernel_rfl
theorem Qn2 : rowB 27 32 = true := by kernel_rfl
theorem Qn3 : rowB 28 32 = true := by kernel_rfl
theorem Qn4 : rowB 29 32 = true := by kernel_rfl
theorem Qn5 : rowB 30 32 = true := by kernel_rfl
theorem Qn6 : rowB 31 32 = true := by kernel_rfl
theorem QlZ {a : Nat} : ∀ {n b : Nat}, rowB a n = true -> b < n -> unionB a b = true
 | 0, _, _, h => absurd h (Nat.not_lt_zero _)
 | n + 1, b, hr, hb => by
  have e : rowB a (n + 1) = ifB (unionB a n) (rowB a n) false := rfl
  rw [e, Qal] at hr
  split at hr
  ·rename_i h
   rcases Nat.lt_succ_iff_lt_or_eq.1 hb with h1 | rfl
   ·exact QlZ hr h1
   ·exact h
  ·cases hr
theorem QkE {a b : Nat} (ha : 0 < a) (ha2 : a < 32) (hb : b < 32) : PSpec Tryz.prog 90 [sliN (bitsL a), sliN (bitsL b)] (sliN (bitsL (a ||| b))) := by
 have h : rowB a 32 = true := by
  have : a = 1 \/ a = 2 \/ a = 3 \/ a = 4 \/ a = 5 \/ a = 6 \/ a = 7 \/ a = 8 \/ a = 9 \/ a = 10 \/ a = 11 \/ a = 12 \/ a = 13 \/ a = 14 \/ a = 15 \/ a = 16 \/ a = 17 \/ a = 18 \/ a = 19 \/ a = 20 \/ a = 21 \/ a = 22 \/ a = 23 \/ a = 24 \/ a = 25 \/ a = 26 \/ a = 27 \/ a = 28 \/ a = 29 \/ a = 30 \/ a = 31 := by omega
  rcases this with rfl | rfl | rfl | rfl | rfl | rfl | rfl | rfl | rfl | rfl | rfl | rfl | rfl | rfl | rfl | rfl | rfl | rfl | rfl | rfl | rfl | rfl | rfl | rfl | rfl | rfl | rfl | rfl | rfl | rfl | rfl
  ·exact row_1
  ·exact row_2
  ·exact row_3
  ·exact row_4
  ·exact row_5
  ·exact row_6
  ·exact row_7
  ·exact row_8
  ·exact row_9
  ·exact QnL
  ·exact QnM
  ·exact QnN
  ·exact QnO
  ·exact QnP
  ·exact QnQ
  ·exact QnR
  ·exact QnS
  ·exact QnT
  ·exact QnU
  ·exact QnV
  ·exact QnW
  ·exact QnX
  ·exact QnY
  ·exact QnZ
  ·exact Qn0
  ·exact Qn1
  ·exact Qn2
  ·exact Qn3
  ·exact Qn4
  ·exact Qn5
  ·exact Qn6
 exact QmF (QlZ h hb)
end
end Go.AM.ST
namespace Go.AM.ST
open Go.Proofs Go.AM.SD Go.AM.SE
noncomputable section
def allV (a : Nat) : AV := if a = 0 then .nilsl else sliN (bitsL a)
def unionN (b : Nat) : Bool := callR ansB noOrc SK.ft.get (exR ansB noOrc SK.ft.get 1000) (.c .pure) 90 [.nilsl, sliN (bitsL b)] .e 64 (fun u _ _ => isV (allV b) u)
theorem Ql0 {b : Nat} (h : unionN b = true) : PSpec Tryz.prog 90 [.nilsl, sliN (bitsL b)] (allV b) :=
 Qbt (t := SK.ft) SK.ft_ok Qc9 (d := 1000) (isV _) QlY h
def rowN (n : Nat) : Bool := @Nat.rec (fun _ => Bool) true (fun b ih => ifB (unionN b) ih false) n
theorem QmG : rowN 32 = true := by kernel_rfl
theorem Qj2 : ∀ {n b : Nat}, rowN n = true -> b < n -> unionN b = true
 | 0, _, _, h => absurd h (Nat.not_lt_zero _)
 | n + 1, b, hr, hb => by
  have e : rowN (n + 1) = ifB (unionN n) (rowN n) false := rfl
  rw [e, Qal] at hr
  split at hr
  ·rename_i h
   rcases Nat.lt_succ_iff_lt_or_eq.1 hb with h1 | rfl
   ·exact Qj2 hr h1
   ·exact h
  ·cases hr
theorem Ql1 (b : Nat) : SD.part 5 b = bitsL (b % 32) := by
 unfold bitsL SD.part
 apply List.filter_congr
 intro x hx
 have := List.mem_range.1 hx
 rw [show 32 = 2 ^ 5 from rfl, Nat.testBit_mod_two_pow]
 simp [this]
theorem union90 {a b : Nat} (ha : a < 32) : PSpec Tryz.prog 90 [allV a, sliN (SD.part 5 b)] (allV (a ||| b % 32)) := by
 rw [Ql1]
 have hb : b % 32 < 32 := Nat.mod_lt _ (by decide)
 by_cases h0 : a = 0
 ·subst h0
  rw [Nat.zero_or]
  exact Ql0 (Qj2 QmG hb)
 ·have h1 : ¬ (a ||| b % 32) = 0 := fun e => h0 (Nat.or_eq_zero_iff.1 e).1
  unfold allV
  rw [if_neg h0, if_neg h1]
  exact QkE (by omega) ha hb
end
end Go.AM.ST
namespace Go.AM.SU
open Go.Proofs Go.AM.SD Go.AM.SE Go.AM.SO
theorem Qb3 (l : List Nat) : (u8s l).length = l.length := by simp [u8s]
theorem graph91 (al : List Nat) (st mk : Nat) (T : List Nat) (hs : al.Pairwise (· < ·)) (h5 : ∀ x ∈ al, x < 5) (hst : st < 256) (hmk : mk < 256) (hT : T.length = 25) (hT8 : ∀ x ∈ T, x < 256) :
  PSpec Tryz.prog 91 [sliN al, grV st mk T, .int .i64 3] (aV (mkA al (st % 3) mk T)) := by
 refine PSpec.of_rn 40 ok91 rfl (by (try simp only [noRefs, Qaa, Qaq, noRef, noRefs, Qac, QaH, Bool.and_self, Bool.and_true]) <;> rfl) (Qco _) ?_
 have hM := Make32 al (st % 3) mk T hs h5 (by omega) hmk hT hT8
 have hlu : (u8s T).length = 25 := by rw [Qb3, hT]
 have htk : (u8s T).take 25 = u8s T := by rw [<- hlu, List.take_length]
 have htm : (st : Int).tmod 3 = ((st % 3 : Nat) : Int) := by rw [Int.tmod_eq_emod_of_nonneg (Int.natCast_nonneg _)]; norm_cast
 have hone : (u8s T).all AV.one = true := by
  have : ∀ l : List Nat, (u8s l).all AV.one = true := fun l => by
   induction l with
   | nil => rfl
   | cons x l ih => show (AV.one _ && (u8s l).all AV.one) = true; rw [ih]; rfl
  exact this T
 simp (disch := first | omega | (simp only [lenW] <;> omega)) only [s91, hlu, htk, htm, hone, Bool.not_eq_true, wW, wV, simprocAttr]
 refine cp hM ?_
 generalize mkA al (st % 3) mk T = A at *
 simp (disch := first | omega | (simp only [lenW] <;> omega)) only [hone, hlu, Bool.not_eq_true, wW, wV, simprocAttr]
 refine ⟨.inr trivial, _, rfl, ?_⟩
 exact Rn.same (Qco _)
theorem QdZ {i : Nat} (hi : i < 10) : aConvS (.int .i32 (48 + (i : Int))) = some (.str [UInt8.ofNat (48 + i)]) := by
 have : i = 0 \/ i = 1 \/ i = 2 \/ i = 3 \/ i = 4 \/ i = 5 \/ i = 6 \/ i = 7 \/ i = 8 \/ i = 9 := by omega
 rcases this with rfl | rfl | rfl | rfl | rfl | rfl | rfl | rfl | rfl | rfl <;> rfl
theorem _root_.Go.AM.au14 {p : Prop} (h : p := by repeat' (first | exact RB.nil | (refine RnL.same ?_; first | rfl | (simp only [noRef, noRefs, Qak, Bool.and_self, Bool.and_true, Bool.true_and, Qaa, Qaq, QaB, Qac, QaH]; done)) | exact RnM.keyM rfl | exact RnL.nil | exact (True.intro : RnM _ _ _ [] []) | refine RnL.cons ?_ ?_ | (refine Rn.same ?_; first | rfl | (simp only [noRef, noRefs, Qak, Bool.and_self, Bool.and_true, Bool.true_and, Qaa, Qaq, QaB, Qac, QaH]; done)) | exact Rn.x1 rfl rfl | exact Rn.x2 rfl rfl | exact Rn.x3 rfl rfl | exact Rn.x4 rfl rfl | exact Rn.x5 rfl | exact Rn.x6 rfl | exact Rn.x7 rfl | refine RB.newnil rfl rfl ?_ | refine RB.cells rfl rfl rfl ?_ ?_ | refine RB.map rfl rfl rfl ?_ ?_ | refine RB.cellsB rfl rfl ?_ ?_ | refine RB.mapB rfl rfl ?_ ?_)) : p := h
theorem _root_.Go.AM.au15 {p : Prop} (h : p := by repeat (first | exact RT.nil | (refine RT.cons ?_ ?_; · (first | exact Rn.any | exact Rn.x1 rfl rfl | exact Rn.x2 rfl rfl | exact Rn.x3 rfl rfl | exact Rn.x4 rfl rfl | exact Rn.x5 rfl | exact Rn.x6 rfl | exact Rn.x7 rfl | (refine Rn.slot ?_ ?_; (first | rfl | (rw [Int.natCast_add]; rfl)); (first | rfl | (simp only [noRef, noRefs, Qak, Bool.and_self, Bool.and_true, Bool.true_and, Qaa, Qaq, QaB, Qac, QaH]; done))) | (refine Rn.fn ?_ ?_ <;> (repeat' (first | exact RnL.nil | refine RnL.cons ?_ ?_ | exact Rn.same rfl | exact Rn.x6 rfl | exact Rn.x2 rfl rfl | exact Rn.x5 rfl | exact Rn.x1 rfl rfl))))))) : p := h
theorem events89 (s : Nat) (hs : s < 256) : HSpec Tryz.prog 89 [.int .u8 s] .e (.sl 98 0 0 (SD.part 5 s).length 1) (hp [(98, .cells 0 (ints (nz (SD.part 5 s))))]) := by
  refine HSpec.Qf4 64 ok89 rfl ?_
  simp (disch := first | omega | (simp only [lenW] <;> omega)) only [s89, Bool.not_eq_true, wW, wV, simprocAttr]
  refine QaE 100 (fun i : Nat => [(0, .int .u8 s), (3, .sl 50 0 0 (SD.part i s).length 1), (4, .int .i64 i)]) (fun i => [(50, .cells 0 (ints (nz (SD.part i s))))]) (fun i => i <= 5) (fun i => 5 - i) 0 ⟨[(50, .nil)], rfl, au0, au14, au15⟩ (Nat.zero_le _) ?_
  rintro i hi
  have hpl := @Qcp i s
  by_cases hlt : i < 5
  · have hlt2 : (i : Int) < 5 := by omega
    by_cases h0 : s.testBit i = true
    · have hb := QcQ.2 h0
      have hp := QcC (n := 5) (b := s) (i := i)
      rw [if_pos h0] at hp
      simp (disch := first | omega | (simp only [lenW] <;> omega)) only [hlt2, Qb0 (k := .u8) (show i <= 8 by omega), Qb1, hb, Bool.not_eq_true, wW, wV, simprocAttr]
      refine ⟨i + 1, by omega, by omega, ?_⟩
      rw [hp, QaF, Qax, List.length_append]
      exact ⟨[(50, .blk 50 1)], rfl, au0, au14, au15⟩
    · have hb : ¬ ((s / 2 ^ i % 2 : Nat) : Int) = 1 := fun e => h0 (QcQ.1 e)
      have hp := QcC (n := 5) (b := s) (i := i)
      rw [if_neg h0, List.append_nil] at hp
      simp (disch := first | omega | (simp only [lenW] <;> omega)) only [hlt2, Qb0 (k := .u8) (show i <= 8 by omega), Qb1, hb, Bool.not_eq_true, wW, wV, simprocAttr]
      refine ⟨i + 1, by omega, by omega, ?_⟩
      rw [hp]
      exact ⟨[(50, .blk 50 0)], rfl, au0, au14, au15⟩
  · have hlt2 : ¬ (i : Int) < 5 := by omega
    have e : i = 5 := by omega
    subst e
    simp (disch := first | omega | (simp only [lenW] <;> omega)) only [hlt2, Bool.not_eq_true, wW, wV, simprocAttr]
    refine ⟨.inr trivial, _, rfl, ?_⟩
    exact ⟨[(98, .blk 50 0)], rfl, au0, au14, au15⟩
theorem del40F {A l : List Nat} {h : Heap} (hA : A.length <= 1000000) (hl : l.length <= 1000000) (h75 : h.get 75 = some (.cells 0 [sliN A])) (h98 : h.get 98 = some (.cells 0 (ints (nz l)))) :
  HSpec Tryz.prog 40 [.sl 98 0 0 l.length 1, .fn 92 [] [.ptr 75 0 0]] h (sliN (fltN A l)) ((h.set 98 (.cells 0 (ints (nz (delL A l))))).set 98 (.dead 0)) := by
 have h1 := HSpec.frameB (del40 A l hA hl) (OnlyD.cons (OnlyD.sl (.inr rfl)) (OnlyD.cons (OnlyD.fn OnlyD.nil (OnlyD.cons (OnlyD.ptr (.inl rfl)) OnlyD.nil)) OnlyD.nil)) (OnlyD.sl (.inr rfl))
  (by simp only [noRefs, noRef, Qaa]; rfl) (Qaa _) (Qaa _) h75 h98 (by decide) rfl rfl
 have hle : (fltN A l).length * 1 <= (ints (nz (delL A l))).length := by simp [ints, delL]
 have h2 := HSpec.freeze (ds := ints (nz (delL A l))) h1 (by rw [QaN (by decide)]) (QlD _) hle rfl
 have e : (ints (nz (delL A l))).take ((fltN A l).length * 1) = ints (nz (fltN A l)) := by
  rw [Nat.mul_one]
  unfold delL
  rw [QaF, Qax, List.take_append_of_le_length (by simp [ints]), List.take_of_length_le (by simp [ints])]
 rw [e] at h2
 exact h2
theorem Qnk (l : List (Nat × Int)) : flatVs (l.flatMap teC) = true := by
 induction l with
 | nil => rfl
 | cons x l ih => rw [List.flatMap_cons]; exact ih
theorem del93F {l : List (Nat × Int)} {h : Heap} (hl : l.length <= 1000000) (h97 : h.get 97 = some (.cells 0 (l.flatMap teC))) :
  HSpec Tryz.prog 93 [.sl 97 0 0 l.length 2, .fn 94 [] []] h (tes (flt0 l)) ((h.set 97 (.cells 0 ((delT l).flatMap teC))).set 97 (.dead 0)) := by
 have h1 := HSpec.frameA (del93 l hl) (OnlyD.cons (OnlyD.sl rfl) (OnlyD.cons (OnlyD.same rfl) OnlyD.nil)) (OnlyD.sl rfl) (QaH _) (QaH _) h97 rfl
 have hle : (flt0 l).length * 2 <= ((delT l).flatMap teC).length := by rw [QcD]; simp [delT]; omega
 have h2 := HSpec.freeze (ds := (delT l).flatMap teC) h1 (by rw [QaN (by decide)]) (Qnk _) hle rfl
 have e : ((delT l).flatMap teC).take ((flt0 l).length * 2) = (flt0 l).flatMap teC := by
  rw [Qgr]
  unfold delT
  rw [List.take_left]
 rw [e] at h2
 exact h2
end Go.AM.SU
namespace Go.AM.SU
open Go.Proofs Go.AM.SD Go.AM.SE Go.AM.SO
theorem Qj3 : ∀ l : List Nat, (u8s l).all AV.one = true
 | [] => rfl
 | x :: l => by show (AV.one _ && (u8s l).all AV.one) = true; rw [Qj3 l]; rfl
section
variable {p : Pln}
theorem Ql2 {l : List Nat} {k : Nat} (h : k < l.length) : (u8s l)[k]? = some (.int .u8 ((l.getD k 0 : Nat) : Int)) := by
 refine Qf5 ?_
 rw [List.getElem?_eq_getElem h, List.getD_eq_getElem?_getD, List.getElem?_eq_getElem h]; rfl
theorem Qgs (h : POk p) : (plnC p).length = 152 := by
 show (u8s p.L ++ _).length = 152
 rw [List.length_append, Qb3, h.L]; rfl
theorem Qn7 (h : POk p) {k : Nat} (hk : k < 147) : (plnC p)[k]? = some (.int .u8 ((p.L.getD k 0 : Nat) : Int)) := by
 show (u8s p.L ++ _)[k]? = _
 rw [List.getElem?_append_left (by rw [Qb3, h.L]; exact hk), Ql2 (by rw [h.L]; exact hk)]
theorem QdB (h : POk p) {k : Nat} : (plnC p)[147 + k]? = ([.fsl (u8s p.X) p.xn 4, .int .i8 p.f0, .int .i8 p.f1, .int .i8 p.f2, .int .i8 p.bd] : List AV)[k]? := by
 show (u8s p.L ++ _)[147 + k]? = _
 rw [List.getElem?_append_right (by rw [Qb3, h.L]; omega), Qb3, h.L]
 congr 1; omega
theorem QiN (h : POk p) {k m : Nat} (hk : k + m <= 147) : ((plnC p).drop k).take m = u8s ((p.L.drop k).take m) := by
 show ((u8s p.L ++ _).drop k).take m = _
 rw [List.drop_append_of_le_length (by rw [Qb3, h.L]; omega), List.take_append_of_le_length (by rw [List.length_drop, Qb3, h.L]; omega)]
 simp [u8s, List.map_drop, List.map_take]
theorem Qn8 (h : POk p) {k : Nat} (hk : k + 27 <= 147) : ((plnC p).drop k).take 27 = .int .u8 ((p.L.getD k 0 : Nat) : Int) :: .int .u8 ((p.L.getD (k + 1) 0 : Nat) : Int) :: u8s ((p.L.drop (k + 2)).take 25) := by
 have hl := h.L
 rw [QiN h hk]
 have e : (p.L.drop k).take 27 = p.L.getD k 0 :: p.L.getD (k + 1) 0 :: (p.L.drop (k + 2)).take 25 := by
  rw [List.getD_eq_getElem?_getD, List.getD_eq_getElem?_getD, List.getElem?_eq_getElem (show k < p.L.length by omega), List.getElem?_eq_getElem (show k + 1 < p.L.length by omega)]
  rw [List.drop_eq_getElem_cons (show k < p.L.length by omega), List.take_succ_cons, List.drop_eq_getElem_cons (show k + 1 < p.L.length by omega), List.take_succ_cons]; rfl
 rw [e]; rfl
theorem L_lt (h : POk p) (k : Nat) : p.L.getD k 0 < 256 := by
 rw [List.getD_eq_getElem?_getD]
 cases e : p.L[k]? with
 | none => decide
 | some x => exact h.L8 x (List.mem_of_getElem? e)
theorem X_lt (h : POk p) (k : Nat) : p.X.getD k 0 < 256 := by
 rw [List.getD_eq_getElem?_getD]
 cases e : p.X[k]? with
 | none => decide
 | some x => exact h.X8 x (List.mem_of_getElem? e)
theorem pF_lt (h : POk p) (i : Nat) : -128 <= pF p i /\ pF p i < 128 := by
 unfold pF
 split
 ·exact h.f0
 ·split
  ·exact h.f1
  ·exact h.f2
theorem Qgt (h : POk p) : (plnC p).all AV.one = true := by
 show (u8s p.L ++ _).all AV.one = true
 rw [List.all_append, Qj3]; rfl
theorem QcI : noRefs (plnC p) = true := by
 show noRefs (u8s p.L ++ _) = true
 rw [Qak, Qaq]
 simp only [noRefs, noRef, Qaq]; rfl
theorem Qnl (F : List Nat) : AV.fsl (evP F 5) 5 5 = evsV (fun i => evOf (F.getD i 0)) := by
 congr 1
theorem Ql3 (e : Nat -> Evt) : noRef (evsV e) = true := rfl
theorem Qb4 {ch : UInt8} (l : List (Nat × Aut)) : noRefs (l.flatMap (itC ch)) = true := QaV (fun x => by simp only [itC, noRefs, noRef, Qaa, Qad]; rfl) l
theorem Qao {ch : UInt8} (l : List (Nat × Aut)) : noRef (its ch l) = true := by simp only [noRef]; exact Qb4 l
theorem Qnm {p : Pln} {i : Nat} : fltN (ST.bitsL (pAll p (pN p))) (SD.part 5 (p.L.getD (91 + i) 0)) = pW p i := by
 unfold fltN pW
 apply List.filter_congr
 intro x hx
 have := partLt x hx
 show decide (x ∈ (List.range 5).filter _) = _
 simp [this]
theorem Qbo (l : List (Nat × Nat)) : noRefs (l.flatMap loC) = true := QaV (fun _ => rfl) l
theorem Qdh (l : List (Nat × Nat)) : noRef (los l) = true := by simp only [noRef]; exact Qbo l
theorem Qga (l : List (Nat × Nat)) : (l.flatMap loC).length = l.length * 2 := Qcm (k := 2) (fun _ => rfl) l
theorem Qa2 (l : List (Nat × List (Nat × Nat))) : noRefs (l.flatMap exC) = true := QaV (fun x => by simp only [exC, noRefs, noRef, Qbo]; rfl) l
theorem Qa6 (l : List (Nat × List (Nat × Nat))) : noRef (exs l) = true := by simp only [noRef]; exact Qa2 l
theorem QdC (l : List (Nat × List (Nat × Nat))) : (l.flatMap exC).length = l.length * 2 := Qcm (k := 2) (fun _ => rfl) l
theorem QcE (l : List (Nat × Int)) : noRef (tes l) = true := by simp only [noRef]; exact QaH l
theorem Qdi (l : List (List (Nat × Int) × Int)) : noRefs (l.flatMap coC) = true := QaV (fun x => by simp only [coC, noRefs, noRef, QaH]; rfl) l
theorem Qhr (l : List (List (Nat × Int) × Int)) : noRef (cos l) = true := by simp only [noRef]; exact Qdi l
theorem Qb5 {ch : UInt8} {l : List (Nat × Aut)} {i : Nat} {x : Nat × Aut} (h : l[i]? = some x) : (l.flatMap (itC ch)).drop (i * 5) = .str [ch, UInt8.ofNat (48 + x.1)] :: sliN x.2.al :: .int .i64 (x.2.n : Int) :: sliN x.2.ms :: egsN x.2.es :: (l.drop (i + 1)).flatMap (itC ch) := Qbn (f := itC ch) (k := 5) (fun _ => rfl) h
theorem Qnn {X : List Nat} {i : Nat} (h : i * 4 + 4 <= X.length) : ((u8s X).drop (i * 4)).take 4 = [.int .u8 ((X.getD (i * 4) 0 : Nat) : Int), .int .u8 ((X.getD (i * 4 + 1) 0 : Nat) : Int), .int .u8 ((X.getD (i * 4 + 2) 0 : Nat) : Int), .int .u8 ((X.getD (i * 4 + 3) 0 : Nat) : Int)] := by
  have g : ∀ k, k < 4 -> X.getD (i * 4 + k) 0 = X[i * 4 + k]! := fun k hk => by
    rw [List.getD_eq_getElem?_getD, List.getElem!_eq_getElem?_getD]; rfl
  apply List.ext_getElem?
  intro j
  by_cases hj : j < 4
  · rw [List.getElem?_take_of_lt hj, List.getElem?_drop, Ql2 (by omega)]
    have : j = 0 \/ j = 1 \/ j = 2 \/ j = 3 := by omega
    rcases this with rfl | rfl | rfl | rfl <;> rfl
  · rw [List.getElem?_eq_none (by rw [List.length_take]; omega), List.getElem?_eq_none (by simp; omega)]
theorem QbH (c : Cel) : noRef (celV c) = true := by
 rw [celV, noRef, noRefs, noRefs, noRefs, noRefs, noRefs, Ql3, Qao, Qao, Qa6, Qhr]; rfl
theorem QcJ {s : List UInt8} {a : Aut} : noRefs [.str s, sliN a.al, .int .i64 (a.n : Int), sliN a.ms, egsN a.es] = true := by simp only [noRefs, noRef, Qaa, Qad]; rfl
theorem Qa0 {x y : List AV} (hx : noRefs x = true) (hy : noRefs y = true) : noRefs (x ++ y) = true := by rw [Qak, hx, hy]; rfl
theorem Ql4 {ch : UInt8} {i : Nat} {a : Aut} : List.flatMap (itC ch) [(i, a)] = [.str [ch, UInt8.ofNat (48 + i)], sliN a.al, .int .i64 (a.n : Int), sliN a.ms, egsN a.es] := rfl
theorem QcF {ch : UInt8} (l : List (Nat × Aut)) : (l.flatMap (itC ch)).length = l.length * 5 := Qcm (k := 5) (fun _ => rfl) l
theorem QmH {i : Nat} : pCs p (i + 1) = pCs p i ++ [(i, pA p i)] := by
 unfold pCs; rw [List.range_succ, List.map_append]; rfl
theorem QmI {i : Nat} : pRs p (i + 1) = pRs p i ++ [(i, pR p i)] := by
 unfold pRs; rw [List.range_succ, List.map_append]; rfl
theorem Qgu {i : Nat} : (pCs p i).length = i := by simp [pCs]
theorem Qj4 {i : Nat} : (pRs p i).length = i := by simp [pRs]
theorem Qj5 : ∀ {i : Nat}, pAll p i < 32
 | 0 => by show 0 < 32; decide
 | i + 1 => Nat.or_lt_two_pow (n := 5) Qj5 (Nat.mod_lt _ (by decide))
end
theorem QkF (a : Nat) : (ST.allV a).cells = [ST.allV a] := by unfold ST.allV; split <;> rfl
theorem QmJ (a : Nat) : (ST.allV a).one = true := by unfold ST.allV; split <;> rfl
theorem Qjf (a : Nat) : noRefs [ST.allV a] = true := by
 unfold ST.allV
 split
 ·rfl
 ·simp only [noRefs, noRef, Qaa]; rfl
theorem Make26 (p : Pln) (h : POk p) : PSpec Tryz.prog 26 [plnV p] (celV (mkC p)) := by
  refine PSpec.of_rn 40 ok26 rfl (by simp only [noRefs, noRef, QcI]; rfl) (QbH _) ?_
  have hlen := Qgs h
  have hone := Qgt h
  have hnr := @QcI p
  have h5 : (plnC p).take 5 = u8s (p.L.take 5) := by simpa using QiN h (k := 0) (m := 5) (by omega)
  have hev := events88 (p.L.take 5) (by rw [List.length_take, h.L]; rfl) (fun i => by
    rw [List.getD_eq_getElem?_getD]
    cases e : (p.L.take 5)[i]? with
    | none => decide
    | some x => exact h.L8 x (List.mem_of_mem_take (List.mem_of_getElem? e)))
  rw [Qnl] at hev
  have hat : ∀ {k}, k < 147 -> (plnC p)[k]? = some (.int .u8 ((p.L.getD k 0 : Nat) : Int)) := fun hk => Qn7 h hk
  have a5 := hat (k := 5) (by omega)
  have a90 := hat (k := 90) (by omega)
  have a147 : (plnC p)[147]? = some (.fsl (u8s p.X) p.xn 4) := QdB h (k := 0)
  have aF : ∀ i, i < 3 -> (plnC p)[148 + i]? = some (.int .i8 (pF p i)) := by
    intro i hi
    have : i = 0 \/ i = 1 \/ i = 2 := by omega
    rcases this with rfl | rfl | rfl
    · exact QdB h (k := 1)
    · exact QdB h (k := 2)
    · exact QdB h (k := 3)
  have a151 : (plnC p)[151]? = some (.int .i8 p.bd) := QdB h (k := 4)
  have hgr : ∀ {k}, k + 27 <= 147 -> ((plnC p).drop k).take 27 = _ := fun hk => Qn8 h hk
  show wS _ _ _ _ _ (argT 0 [.agg (plnC p)]) _ _
  generalize plnC p = C at *
  have htm : ((p.L.getD 5 0 : Nat) : Int).tmod 3 = ((p.L.getD 5 0 % 3 : Nat) : Int) := by rw [Int.tmod_eq_emod_of_nonneg (Int.natCast_nonneg _)]; norm_cast
  have hn : (1 : Int) + ((p.L.getD 5 0 % 3 : Nat) : Int) = (pN p : Int) := by unfold pN; omega
  have hn3 := @pN_le p
  simp (disch := first | omega | (simp only [lenW] <;> omega)) only [s26, hlen, hone, h5, Bool.not_eq_true, wW, wV, simprocAttr]
  refine cp hev ?_
  simp (disch := first | omega | (simp only [lenW] <;> omega)) only [a5, htm, hn, Bool.not_eq_true, wW, wV, simprocAttr]
  refine Qav 100 (fun i : Nat => [(1, .ptr 50 0 0), (2, .ptr 51 0 0), (3, .ptr 52 0 0), (4, .ptr 75 0 0), (5, .int .i64 (pN p : Int)), (26, .int .i64 (pN p : Int)), (27, .int .i64 i)])
    (fun i => [(50, .cells 0 C), (51, .cells 0 [.nilsl, .nilsl, .nilsl, .nilsl, .nilsl]), (52, .cells 0 [evsV (fun i => evOf ((p.L.take 5).getD i 0)), .sl 76 0 0 (pCs p i).length 5, .nilsl, .nilsl, .nilsl]), (75, .cells 0 [ST.allV (pAll p i)]), (76, .cells 0 ((pCs p i).flatMap (itC 99)))])
    (fun i => i <= pN p) (fun i => pN p - i) 0 0 200
    (fun _ : Unit => [(1, .ptr 50 0 0), (2, .ptr 51 0 0), (3, .ptr 52 0 0), (4, .ptr 75 0 0), (5, .int .i64 (pN p : Int))])
    (fun _ => [(50, .cells 0 C), (51, .cells 0 [.nilsl, .nilsl, .nilsl, .nilsl, .nilsl]), (52, .cells 0 [evsV (fun i => evOf ((p.L.take 5).getD i 0)), its 99 (pCs p (pN p)), .nilsl, .nilsl, .nilsl]), (75, .cells 0 [sliN (ST.bitsL (pAll p (pN p)))])]) (fun _ => True) ?_ (Nat.zero_le _) ?_ ?_
  · refine ⟨[(50, .blk 40 0), (51, .blk 41 0), (52, .blk 46 0), (75, .blk 48 0), (76, .nil)], rfl, au0, ?_, au15⟩
    exact RB.cells rfl rfl gg (RnL.same hnr) (RB.cells rfl rfl gg (RnL.same rfl) (RB.cells rfl rfl gg (RnL.cons (Rn.same rfl) (RnL.cons (Rn.x4 rfl rfl) (RnL.same rfl))) (RB.cells rfl rfl gg (RnL.same rfl) (RB.newnil rfl rfl RB.nil))))
  · rintro i hi
    by_cases hlt : i < pN p
    · have hi3 : (i : Int) < 3 := by omega
      have a6 := hat (k := 6 + i) (by omega)
      have hE := events16 (p.L.getD (6 + i) 0) (L_lt h _)
      have hU := ST.union90 (a := pAll p i) (b := p.L.getD (6 + i) 0) Qj5
      have hg := hgr (k := 9 + i * 27) (by omega)
      have hG := graph91 (SD.part 5 (p.L.getD (6 + i) 0)) (p.L.getD (9 + i * 27) 0) (p.L.getD (9 + i * 27 + 1) 0) ((p.L.drop (9 + i * 27 + 2)).take 25) (Qcw _ _) partLt (L_lt h _) (L_lt h _) (by rw [List.length_take, List.length_drop, h.L]; omega) (fun x hx => h.L8 x (List.mem_of_mem_drop (List.mem_of_mem_take hx)))
      have hA : mkA (SD.part 5 (p.L.getD (6 + i) 0)) (p.L.getD (9 + i * 27) 0 % 3) (p.L.getD (9 + i * 27 + 1) 0) ((p.L.drop (9 + i * 27 + 2)).take 25) = pA p i := rfl
      rw [hA] at hG
      have hB : pAll p i ||| p.L.getD (6 + i) 0 % 32 = pAll p (i + 1) := rfl
      rw [hB] at hU
      have hsuc := @QmH p i
      have hil := @QcF 99 (pCs p i)
      have hpl := @Qgu p i
      simp (disch := first | omega | (simp only [lenW] <;> omega)) only [hlt, hi3, a6, hlen, Bool.not_eq_true, wW, wV, simprocAttr]
      refine cp hE ?_
      simp (disch := first | omega | (simp only [lenW] <;> omega)) only [Bool.not_eq_true, wW, wV, simprocAttr]
      refine cp hU ?_
      have hs := QdZ (i := i) (by omega)
      have hg27 : 9 + i * 27 + 27 <= 152 := by omega
      simp (disch := first | omega | (simp only [lenW] <;> omega)) only [hlt, hi3, hlen, hs, Qc1, QkF, QmJ, hg27, hg, Bool.not_eq_true, wW, wV, simprocAttr]
      refine cp hG ?_
      simp (disch := first | omega | (simp only [lenW] <;> omega)) only [hil, hpl, Bool.not_eq_true, wW, wV, simprocAttr]
      refine ⟨i + 1, by omega, by omega, ?_⟩
      rw [hsuc, List.flatMap_append, List.length_append, hpl, Ql4]
      refine ⟨[(50, .blk 50 0), (51, .blk 51 0), (52, .blk 52 0), (75, .blk 75 0), (76, .blk 76 1)], rfl, au0, ?_, au15⟩
      exact RB.cells rfl rfl gg (RnL.same hnr) (RB.cells rfl rfl gg (RnL.same rfl) (RB.cells rfl rfl gg (RnL.cons (Rn.same rfl) (RnL.cons (Rn.x1 rfl rfl) (RnL.same rfl))) (RB.cells rfl rfl gg (RnL.same (Qjf _)) (RB.cells rfl rfl gg (RnL.same (Qa0 (Qb4 _) QcJ)) RB.nil))))
    · have e : i = pN p := by omega
      subst e
      have hil := @QcF 99 (pCs p (pN p))
      have hpl := @Qgu p (pN p)
      simp (disch := first | omega | (simp only [lenW] <;> omega)) only [hlt, Bool.not_eq_true, wW, wV, simprocAttr]
      refine ⟨(), ?_⟩
      refine ⟨[(50, .blk 50 0), (51, .blk 51 0), (52, .blk 52 0), (75, .blk 75 0)], rfl, au0, ?_, au15⟩
      refine RB.cells rfl rfl gg (RnL.same hnr) (RB.cells rfl rfl gg (RnL.same rfl) (RB.cells rfl rfl gg (RnL.cons (Rn.same rfl) (RnL.cons (Rn.fzm rfl rfl rfl rfl (QcF _) (RnL.same (Qb4 _))) (RnL.same rfl))) (RB.cells rfl rfl gg (RnL.cons ?_ RnL.nil) RB.nil)))
      unfold ST.allV
      split
      · rename_i h0; rw [h0]; exact Rn.nilK
      · exact Rn.same (Qac _)
  rintro _ _
  have htm90 : ((p.L.getD 90 0 : Nat) : Int).tmod 3 = (pM p : Int) := by rw [Int.tmod_eq_emod_of_nonneg (Int.natCast_nonneg _)]; unfold pM; norm_cast
  have hm2 := @pM_le p
  simp (disch := first | omega | (simp only [lenW] <;> omega)) only [a90, htm90, Bool.not_eq_true, wW, wV, simprocAttr]
  refine Qav 100 (fun i : Nat => [(1, .ptr 50 0 0), (2, .ptr 51 0 0), (3, .ptr 52 0 0), (4, .ptr 75 0 0), (5, .int .i64 (pN p : Int)), (59, .int .i64 (pM p : Int)), (60, .int .i64 i)])
    (fun i => [(50, .cells 0 C), (51, .cells 0 [.nilsl, .nilsl, .nilsl, .nilsl, .nilsl]), (52, .cells 0 [evsV (fun i => evOf ((p.L.take 5).getD i 0)), its 99 (pCs p (pN p)), .sl 77 0 0 (pRs p i).length 5, .nilsl, .nilsl]), (75, .cells 0 [sliN (ST.bitsL (pAll p (pN p)))]), (77, .cells 0 ((pRs p i).flatMap (itC 114)))])
    (fun i => i <= pM p) (fun i => pM p - i) 0 2 200
    (fun _ : Unit => [(1, .ptr 50 0 0), (2, .ptr 51 0 0), (3, .ptr 52 0 0), (5, .int .i64 (pN p : Int))])
    (fun _ => [(50, .cells 0 C), (51, .cells 0 [.nilsl, .nilsl, .nilsl, .nilsl, .nilsl]), (52, .cells 0 [evsV (fun i => evOf ((p.L.take 5).getD i 0)), its 99 (pCs p (pN p)), its 114 (pRs p (pM p)), .nilsl, .nilsl])]) (fun _ => True) ?_ (Nat.zero_le _) ?_ ?_
  · refine ⟨[(50, .blk 50 0), (51, .blk 51 0), (52, .blk 52 0), (75, .blk 75 0), (77, .nil)], rfl, au0, ?_, au15⟩
    exact RB.cells rfl rfl gg (RnL.same hnr) (RB.cells rfl rfl gg (RnL.same rfl) (RB.cells rfl rfl gg (RnL.cons (Rn.same rfl) (RnL.cons (Rn.same (Qao _)) (RnL.cons (Rn.x4 rfl rfl) (RnL.same rfl)))) (RB.cells rfl rfl gg (RnL.cons (Rn.same (Qac _)) RnL.nil) (RB.newnil rfl rfl RB.nil))))
  · rintro i hi
    by_cases hlt : i < pM p
    · have hi3 : (i : Int) < 2 := by omega
      have a6 := hat (k := 91 + i) (by omega)
      have hE := events89 (p.L.getD (91 + i) 0) (L_lt h _)
      have hg := hgr (k := 93 + i * 27) (by omega)
      have hG := graph91 (pW p i) (p.L.getD (93 + i * 27) 0) (p.L.getD (93 + i * 27 + 1) 0) ((p.L.drop (93 + i * 27 + 2)).take 25) (Qhp _) (pW_lt _) (L_lt h _) (L_lt h _) (by rw [List.length_take, List.length_drop, h.L]; omega) (fun x hx => h.L8 x (List.mem_of_mem_drop (List.mem_of_mem_take hx)))
      have hA : mkA (pW p i) (p.L.getD (93 + i * 27) 0 % 3) (p.L.getD (93 + i * 27 + 1) 0) ((p.L.drop (93 + i * 27 + 2)).take 25) = pR p i := rfl
      rw [hA] at hG
      have hsuc := @QmI p i
      have hil := @QcF 114 (pRs p i)
      have hpl := @Qj4 p i
      have hs := QdZ (i := i) (by omega)
      have hg27 : 93 + i * 27 + 27 <= 152 := by omega
      have hW : fltN (ST.bitsL (pAll p (pN p))) (SD.part 5 (p.L.getD (91 + i) 0)) = pW p i := Qnm
      have hbl : (ST.bitsL (pAll p (pN p))).length <= 1000000 := Nat.le_trans (Qcp (i := 5)) (by decide)
      have hpl5 : (SD.part 5 (p.L.getD (91 + i) 0)).length <= 1000000 := Nat.le_trans (Qcp (i := 5)) (by decide)
      generalize ST.bitsL (pAll p (pN p)) = A at *
      simp (disch := first | omega | (simp only [lenW] <;> omega)) only [hlt, hi3, a6, hlen, Bool.not_eq_true, wW, wV, simprocAttr]
      refine ch (HSpec.of_O (b := 98) (by (try simp only [noRefs, Qaa, Qaq, noRef, noRefs, Qac, QaH, Bool.and_self, Bool.and_true]) <;> rfl) hE (by repeat (first | exact Fresh.e | exact Fresh.le (by assumption) (by omega) | refine Fresh.set ?_ (by omega) (by omega))) rfl) ?_
      simp (disch := first | omega | (simp only [lenW] <;> omega)) only [Bool.not_eq_true, wW, wV, simprocAttr]
      refine chc (del40F hbl hpl5 gg gg) ?_
      rw [hW]
      simp (disch := first | omega | (simp only [lenW] <;> omega)) only [hlt, hi3, hlen, hs, hg27, hg, Bool.not_eq_true, wW, wV, simprocAttr]
      refine cp hG ?_
      simp (disch := first | omega | (simp only [lenW] <;> omega)) only [hil, hpl, Bool.not_eq_true, wW, wV, simprocAttr]
      refine ⟨i + 1, by omega, by omega, ?_⟩
      rw [hsuc, List.flatMap_append, List.length_append, hpl, Ql4]
      refine ⟨[(50, .blk 50 0), (51, .blk 51 0), (52, .blk 52 0), (75, .blk 75 0), (77, .blk 77 1)], rfl, au0, ?_, au15⟩
      exact RB.cells rfl rfl gg (RnL.same hnr) (RB.cells rfl rfl gg (RnL.same rfl) (RB.cells rfl rfl gg (RnL.cons (Rn.same rfl) (RnL.cons (Rn.same (Qao _)) (RnL.cons (Rn.x1 rfl rfl) (RnL.same rfl)))) (RB.cells rfl rfl gg (RnL.cons (Rn.same (Qac _)) RnL.nil) (RB.cells rfl rfl gg (RnL.same (Qa0 (Qb4 _) QcJ)) RB.nil))))
    · have e : i = pM p := by omega
      subst e
      have hil := @QcF 114 (pRs p (pM p))
      have hpl := @Qj4 p (pM p)
      simp (disch := first | omega | (simp only [lenW] <;> omega)) only [hlt, Bool.not_eq_true, wW, wV, simprocAttr]
      refine ⟨(), ?_⟩
      refine ⟨[(50, .blk 50 0), (51, .blk 51 0), (52, .blk 52 0)], rfl, au0, ?_, au15⟩
      exact RB.cells rfl rfl gg (RnL.same hnr) (RB.cells rfl rfl gg (RnL.same rfl) (RB.cells rfl rfl gg (RnL.cons (Rn.same rfl) (RnL.cons (Rn.same (Qao _)) (RnL.cons (Rn.fzm rfl rfl rfl rfl (QcF _) (RnL.same (Qb4 _))) (RnL.same rfl)))) RB.nil))
  rintro _ _
  simp (disch := first | omega | (simp only [lenW] <;> omega)) only [a147, Bool.not_eq_true, wW, wV, simprocAttr]
  refine Qav 100 (fun i : Nat => [(1, .ptr 50 0 0), (2, .ptr 51 0 0), (3, .ptr 52 0 0), (5, .int .i64 (pN p : Int)), (89, .fsl (u8s p.X) p.xn 4), (90, .int .i64 (p.xn : Int)), (91, .int .i64 i)])
    (fun i => [(50, .cells 0 C), (51, .cells 0 [.nilsl, .nilsl, .nilsl, .nilsl, .nilsl]), (52, .cells 0 [evsV (fun i => evOf ((p.L.take 5).getD i 0)), its 99 (pCs p (pN p)), its 114 (pRs p (pM p)), .sl 78 0 0 (pXs p i).length 2, .nilsl]), (78, .cells 0 ((pXs p i).flatMap exC))])
    (fun i => i <= p.xn /\ i <= 2) (fun i => p.xn - i) 0 4 200
    (fun _ : Unit => [(1, .ptr 50 0 0), (2, .ptr 51 0 0), (3, .ptr 52 0 0), (5, .int .i64 (pN p : Int))])
    (fun _ => [(50, .cells 0 C), (51, .cells 0 [.nilsl, .nilsl, .nilsl, .nilsl, .nilsl]), (52, .cells 0 [evsV (fun i => evOf ((p.L.take 5).getD i 0)), its 99 (pCs p (pN p)), its 114 (pRs p (pM p)), exs (pXs p (min p.xn 2)), .nilsl])]) (fun _ => True) ?_ ⟨Nat.zero_le _, Nat.zero_le _⟩ ?_ ?_
  · refine ⟨[(50, .blk 50 0), (51, .blk 51 0), (52, .blk 52 0), (78, .nil)], rfl, au0, ?_, au15⟩
    exact RB.cells rfl rfl gg (RnL.same hnr) (RB.cells rfl rfl gg (RnL.same rfl) (RB.cells rfl rfl gg (RnL.cons (Rn.same rfl) (RnL.cons (Rn.same (Qao _)) (RnL.cons (Rn.same (Qao _)) (RnL.cons (Rn.x4 rfl rfl) (RnL.same rfl))))) (RB.newnil rfl rfl RB.nil)))
  · rintro i ⟨hi, hi2⟩
    have hxl := @QdC (pXs p i)
    have hxx := @Qgp p i
    by_cases hlt : i < p.xn
    · have hX := h.X
      have h4 := Qnn (X := p.X) (i := i) (by omega)
      have hul : i * 4 + 4 <= (u8s p.X).length := by rw [Qb3, hX]; omega
      have hdl : 4 <= ((u8s p.X).drop (i * 4)).length := by rw [List.length_drop]; omega
      by_cases h2 : i = 2
      · subst h2
        have hi2' : (2 : Int) < (p.xn : Int) := by omega
        simp (disch := first | omega | (simp only [lenW] <;> omega)) only [hlt, h4, hdl, hi2', Bool.not_eq_true, wW, wV, simprocAttr]
        refine ⟨(), ?_⟩
        rw [show min p.xn 2 = 2 by omega]
        refine ⟨[(50, .blk 50 0), (51, .blk 51 0), (52, .blk 52 0)], rfl, au0, ?_, au15⟩
        exact RB.cells rfl rfl gg (RnL.same hnr) (RB.cells rfl rfl gg (RnL.same rfl) (RB.cells rfl rfl gg (RnL.cons (Rn.same rfl) (RnL.cons (Rn.same (Qao _)) (RnL.cons (Rn.same (Qao _)) (RnL.cons (Rn.fzm rfl rfl rfl rfl (QdC _) (RnL.same (Qa2 _))) (RnL.same rfl))))) RB.nil))
      have h2' : ¬ (i : Int) = 2 := by omega
      have hs := QdZ (i := i) (by omega)
      simp (disch := first | omega | (simp only [lenW] <;> omega)) only [hlt, h4, hdl, h2', hs, Bool.not_eq_true, wW, wV, simprocAttr]
      obtain ⟨Y, hYe⟩ : ∃ Y, Y = [AV.int .u8 ((p.X.getD (i * 4) 0 : Nat) : Int), .int .u8 ((p.X.getD (i * 4 + 1) 0 : Nat) : Int), .int .u8 ((p.X.getD (i * 4 + 2) 0 : Nat) : Int), .int .u8 ((p.X.getD (i * 4 + 3) 0 : Nat) : Int)] := ⟨_, rfl⟩
      have hYn : noRefs Y = true := by rw [hYe]; rfl
      have hYk : ∀ k, k < 3 -> Y[k]? = some (.int .u8 ((p.X.getD (i * 4 + k) 0 : Nat) : Int)) := by
        intro k hk
        have : k = 0 \/ k = 1 \/ k = 2 := by omega
        rcases this with rfl | rfl | rfl <;> rw [hYe] <;> rfl
      have hpl := @Qgu p (pN p)
      have hilC := @QcF 99 (pCs p (pN p))
      rw [<- hYe, hpl]
      refine Qav 220 (fun k : Nat => [(1, .ptr 50 0 0), (2, .ptr 51 0 0), (3, .ptr 52 0 0), (5, .int .i64 (pN p : Int)), (11, .ptr 60 0 0), (12, .ptr 61 0 0), (89, .fsl (u8s p.X) p.xn 4), (90, .int .i64 (p.xn : Int)), (91, .int .i64 i), (106, .int .i64 (pN p : Int)), (107, .int .i64 k)])
        (fun k => [(50, .cells 0 C), (51, .cells 0 [.nilsl, .nilsl, .nilsl, .nilsl, .nilsl]), (52, .cells 0 [evsV (fun i => evOf ((p.L.take 5).getD i 0)), its 99 (pCs p (pN p)), its 114 (pRs p (pM p)), .sl 78 0 0 (pXs p i).length 2, .nilsl]), (60, .cells 0 Y), (61, .cells 0 [.str [101, UInt8.ofNat (48 + i)], .sl 79 0 0 (pLo p i k).length 2]), (78, .cells 0 ((pXs p i).flatMap exC)), (79, .cells 0 ((pLo p i k).flatMap loC))])
        (fun k => k <= pN p) (fun k => pN p - k) 0 6 300
        (fun _ : Unit => [(1, .ptr 50 0 0), (2, .ptr 51 0 0), (3, .ptr 52 0 0), (5, .int .i64 (pN p : Int)), (12, .ptr 61 0 0), (89, .fsl (u8s p.X) p.xn 4), (90, .int .i64 (p.xn : Int)), (91, .int .i64 i)])
        (fun _ => [(50, .cells 0 C), (51, .cells 0 [.nilsl, .nilsl, .nilsl, .nilsl, .nilsl]), (52, .cells 0 [evsV (fun i => evOf ((p.L.take 5).getD i 0)), its 99 (pCs p (pN p)), its 114 (pRs p (pM p)), .sl 78 0 0 (pXs p i).length 2, .nilsl]), (61, .cells 0 [.str [101, UInt8.ofNat (48 + i)], los (pLo p i (pN p))]), (78, .cells 0 ((pXs p i).flatMap exC))]) (fun _ => True) ?_ (Nat.zero_le _) ?_ ?_
      · refine ⟨[(50, .blk 50 0), (51, .blk 51 0), (52, .blk 52 0), (60, .blk 104 0), (61, .blk 115 0), (78, .blk 78 0), (79, .nil)], rfl, au0, ?_, au15⟩
        exact RB.cells rfl rfl gg (RnL.same hnr) (RB.cells rfl rfl gg (RnL.same rfl) (RB.cells rfl rfl gg (RnL.cons (Rn.same rfl) (RnL.cons (Rn.same (Qao _)) (RnL.cons (Rn.same (Qao _)) (RnL.cons (Rn.x1 rfl rfl) (RnL.same rfl))))) (RB.cells rfl rfl gg (RnL.same hYn) (RB.cells rfl rfl gg (RnL.cons (Rn.same rfl) (RnL.cons (Rn.x4 rfl rfl) RnL.nil)) (RB.cells rfl rfl gg (RnL.same (Qa2 _)) (RB.newnil rfl rfl RB.nil))))))
      · rintro k hk
        have hll := @Qga (pLo p i k)
        have hlx := @Qgq p i k
        by_cases hkl : k < pN p
        · have hk3 : (k : Int) < 4 := by omega
          have hck := QlV (p := p) hkl
          have hdr := Qb5 (ch := 99) hck
          have hdl2 : 5 <= (((pCs p (pN p)).flatMap (itC 99)).drop (k * 5)).length := by rw [hdr]; simp
          have hy := hYk k (by omega)
          have hx8 := X_lt h (i * 4 + k)
          have hn5 : (pA p k).n <= 3 := (pA_wf k).n3
          have hrm : ((p.X.getD (i * 4 + k) 0 : Nat) : Int).tmod (((pA p k).n : Int) + 2) = ((p.X.getD (i * 4 + k) 0 % ((pA p k).n + 2) : Nat) : Int) := by
            rw [Int.tmod_eq_emod_of_nonneg (Int.natCast_nonneg _)]; norm_cast
          have hn0 : ¬ ((pA p k).n : Int) + 2 = 0 := by omega
          have hxm : p.X.getD (i * 4 + k) 0 % ((pA p k).n + 2) <= 10 := by have := Nat.mod_lt (p.X.getD (i * 4 + k) 0) (show 0 < (pA p k).n + 2 by omega); omega
          have hsuc : pLo p i (k + 1) = if p.X.getD (i * 4 + k) 0 % ((pA p k).n + 2) < (pA p k).n then pLo p i k ++ [(k, p.X.getD (i * 4 + k) 0 % ((pA p k).n + 2))] else pLo p i k := rfl
          by_cases ht : p.X.getD (i * 4 + k) 0 % ((pA p k).n + 2) < (pA p k).n
          · rw [if_pos ht] at hsuc
            have hlo1 : List.flatMap loC [(k, p.X.getD (i * 4 + k) 0 % ((pA p k).n + 2))] = [.int .i64 (k : Int), .int .i64 ((p.X.getD (i * 4 + k) 0 % ((pA p k).n + 2) : Nat) : Int)] := rfl
            simp (disch := first | omega | (simp only [lenW] <;> omega)) only [hkl, hk3, hdr, hdl2, hy, hrm, hn0, ht, hll, Bool.not_eq_true, wW, wV, simprocAttr]
            refine ⟨k + 1, by omega, by omega, ?_⟩
            rw [hsuc, List.flatMap_append, List.length_append, hlo1]
            refine ⟨[(50, .blk 50 0), (51, .blk 51 0), (52, .blk 52 0), (60, .blk 60 0), (61, .blk 61 0), (78, .blk 78 0), (79, .blk 79 1)], rfl, au0, ?_, au15⟩
            exact RB.cells rfl rfl gg (RnL.same hnr) (RB.cells rfl rfl gg (RnL.same rfl) (RB.cells rfl rfl gg (RnL.cons (Rn.same rfl) (RnL.cons (Rn.same (Qao _)) (RnL.cons (Rn.same (Qao _)) (RnL.cons (Rn.x1 rfl rfl) (RnL.same rfl))))) (RB.cells rfl rfl gg (RnL.same hYn) (RB.cells rfl rfl gg (RnL.cons (Rn.same rfl) (RnL.cons (Rn.x1 rfl rfl) RnL.nil)) (RB.cells rfl rfl gg (RnL.same (Qa2 _)) (RB.cells rfl rfl gg (RnL.same (Qa0 (Qbo _) rfl)) RB.nil))))))
          · rw [if_neg ht] at hsuc
            simp (disch := first | omega | (simp only [lenW] <;> omega)) only [hkl, hk3, hdr, hdl2, hy, hrm, hn0, ht, hll, Bool.not_eq_true, wW, wV, simprocAttr]
            refine ⟨k + 1, by omega, by omega, ?_⟩
            rw [hsuc]
            refine ⟨[(50, .blk 50 0), (51, .blk 51 0), (52, .blk 52 0), (60, .blk 60 0), (61, .blk 61 0), (78, .blk 78 0), (79, .blk 79 0)], rfl, au0, ?_, au15⟩
            exact RB.cells rfl rfl gg (RnL.same hnr) (RB.cells rfl rfl gg (RnL.same rfl) (RB.cells rfl rfl gg (RnL.cons (Rn.same rfl) (RnL.cons (Rn.same (Qao _)) (RnL.cons (Rn.same (Qao _)) (RnL.cons (Rn.x1 rfl rfl) (RnL.same rfl))))) (RB.cells rfl rfl gg (RnL.same hYn) (RB.cells rfl rfl gg (RnL.cons (Rn.same rfl) (RnL.cons (Rn.x1 rfl rfl) RnL.nil)) (RB.cells rfl rfl gg (RnL.same (Qa2 _)) (RB.cells rfl rfl gg (RnL.same (Qbo _)) RB.nil))))))
        · have e : k = pN p := by omega
          subst e
          simp (disch := first | omega | (simp only [lenW] <;> omega)) only [hkl, Bool.not_eq_true, wW, wV, simprocAttr]
          refine ⟨(), ?_⟩
          refine ⟨[(50, .blk 50 0), (51, .blk 51 0), (52, .blk 52 0), (61, .blk 61 0), (78, .blk 78 0)], rfl, au0, ?_, au15⟩
          exact RB.cells rfl rfl gg (RnL.same hnr) (RB.cells rfl rfl gg (RnL.same rfl) (RB.cells rfl rfl gg (RnL.cons (Rn.same rfl) (RnL.cons (Rn.same (Qao _)) (RnL.cons (Rn.same (Qao _)) (RnL.cons (Rn.x1 rfl rfl) (RnL.same rfl))))) (RB.cells rfl rfl gg (RnL.cons (Rn.same rfl) (RnL.cons (Rn.fzm rfl rfl rfl rfl (Qga _) (RnL.same (Qbo _))) RnL.nil)) (RB.cells rfl rfl gg (RnL.same (Qa2 _)) RB.nil))))
      rintro _ _
      have hsuc : pXs p (i + 1) = if 0 < (pLo p i (pN p)).length then pXs p i ++ [(i, pLo p i (pN p))] else pXs p i := rfl
      have hlx := @Qgq p i (pN p)
      by_cases h0 : 0 < (pLo p i (pN p)).length
      · rw [if_pos h0] at hsuc
        have hex1 : List.flatMap exC [(i, pLo p i (pN p))] = [.str [101, UInt8.ofNat (48 + i)], los (pLo p i (pN p))] := rfl
        simp (disch := first | omega | (simp only [lenW] <;> omega)) only [h0, hxl, Bool.not_eq_true, wW, wV, simprocAttr]
        refine ⟨i + 1, by omega, ⟨by omega, by omega⟩, ?_⟩
        rw [hsuc, List.flatMap_append, List.length_append, hex1]
        refine ⟨[(50, .blk 50 0), (51, .blk 51 0), (52, .blk 52 0), (78, .blk 78 1)], rfl, au0, ?_, au15⟩
        exact RB.cells rfl rfl gg (RnL.same hnr) (RB.cells rfl rfl gg (RnL.same rfl) (RB.cells rfl rfl gg (RnL.cons (Rn.same rfl) (RnL.cons (Rn.same (Qao _)) (RnL.cons (Rn.same (Qao _)) (RnL.cons (Rn.x1 rfl rfl) (RnL.same rfl))))) (RB.cells rfl rfl gg (RnL.same (Qa0 (Qa2 _) (by simp only [noRefs, noRef, Qbo]; rfl))) RB.nil)))
      · rw [if_neg h0] at hsuc
        simp (disch := first | omega | (simp only [lenW] <;> omega)) only [h0, hxl, Bool.not_eq_true, wW, wV, simprocAttr]
        refine ⟨i + 1, by omega, ⟨by omega, by omega⟩, ?_⟩
        rw [hsuc]
        refine ⟨[(50, .blk 50 0), (51, .blk 51 0), (52, .blk 52 0), (78, .blk 78 0)], rfl, au0, ?_, au15⟩
        exact RB.cells rfl rfl gg (RnL.same hnr) (RB.cells rfl rfl gg (RnL.same rfl) (RB.cells rfl rfl gg (RnL.cons (Rn.same rfl) (RnL.cons (Rn.same (Qao _)) (RnL.cons (Rn.same (Qao _)) (RnL.cons (Rn.x1 rfl rfl) (RnL.same rfl))))) (RB.cells rfl rfl gg (RnL.same (Qa2 _)) RB.nil)))
    · have e : i = p.xn := by omega
      subst e
      simp (disch := first | omega | (simp only [lenW] <;> omega)) only [hlt, Bool.not_eq_true, wW, wV, simprocAttr]
      refine ⟨(), ?_⟩
      rw [show min p.xn 2 = p.xn by omega]
      refine ⟨[(50, .blk 50 0), (51, .blk 51 0), (52, .blk 52 0)], rfl, au0, ?_, au15⟩
      exact RB.cells rfl rfl gg (RnL.same hnr) (RB.cells rfl rfl gg (RnL.same rfl) (RB.cells rfl rfl gg (RnL.cons (Rn.same rfl) (RnL.cons (Rn.same (Qao _)) (RnL.cons (Rn.same (Qao _)) (RnL.cons (Rn.fzm rfl rfl rfl rfl (QdC _) (RnL.same (Qa2 _))) (RnL.same rfl))))) RB.nil))
  rintro _ _
  have hb1 := Int.lt_tmod_of_pos p.bd (show (0 : Int) < 8 by decide)
  have hb2 := Int.tmod_lt_of_pos p.bd (show (0 : Int) < 8 by decide)
  have hbd := h.bd
  have hf0 := h.f0
  have hf1 := h.f1
  have hf2 := h.f2
  simp (disch := first | omega | (simp only [lenW] <;> omega)) only [a151, Bool.not_eq_true, wW, wV, simprocAttr]
  refine Qav 240 (fun i : Nat => [(1, .ptr 50 0 0), (2, .ptr 51 0 0), (3, .ptr 52 0 0), (15, .ptr 62 0 0), (157, .int .i64 (pN p : Int)), (158, .int .i64 i)])
    (fun i => [(50, .cells 0 C), (51, .cells 0 [.nilsl, .nilsl, .nilsl, .nilsl, .nilsl]), (52, .cells 0 [evsV (fun i => evOf ((p.L.take 5).getD i 0)), its 99 (pCs p (pN p)), its 114 (pRs p (pM p)), exs (pXs p (min p.xn 2)), .nilsl]), (62, .cells 0 [.str [107], .sl 97 0 0 (pT p i).length 2, .int .i64 (p.bd.tmod 8)]), (97, .cells 0 ((pT p i).flatMap teC))])
    (fun i => i <= pN p) (fun i => pN p - i) 0 8 300
    (fun _ : Unit => [(2, .ptr 51 0 0), (3, .ptr 52 0 0), (15, .ptr 62 0 0)])
    (fun _ => [(51, .cells 0 [.nilsl, .nilsl, .nilsl, .nilsl, .nilsl]), (52, .cells 0 [evsV (fun i => evOf ((p.L.take 5).getD i 0)), its 99 (pCs p (pN p)), its 114 (pRs p (pM p)), exs (pXs p (min p.xn 2)), .nilsl]), (62, .cells 0 [.str [107], .sl 97 0 0 (pT p (pN p)).length 2, .int .i64 (p.bd.tmod 8)]), (97, .cells 0 ((pT p (pN p)).flatMap teC))]) (fun _ => True) ?_ (Nat.zero_le _) ?_ ?_
  · refine ⟨[(50, .blk 50 0), (51, .blk 51 0), (52, .blk 52 0), (62, .blk 205 0), (97, .nil)], rfl, au0, ?_, au15⟩
    exact RB.cells rfl rfl gg (RnL.same hnr) (RB.cells rfl rfl gg (RnL.same rfl) (RB.cells rfl rfl gg (RnL.cons (Rn.same rfl) (RnL.cons (Rn.same (Qao _)) (RnL.cons (Rn.same (Qao _)) (RnL.cons (Rn.same (Qa6 _)) (RnL.same rfl))))) (RB.cells rfl rfl gg (RnL.cons (Rn.same rfl) (RnL.cons (Rn.x4 rfl rfl) (RnL.same rfl))) (RB.newnil rfl rfl RB.nil))))
  · rintro i hi
    have htl := @QcD (pT p i)
    have htx := @QiL p i
    by_cases hlt : i < pN p
    · have hi3 : (i : Int) < 3 := by omega
      have ha := aF i (by omega)
      have hFb : -128 <= pF p i /\ pF p i < 128 := pF_lt h i
      have hsuc : pT p (i + 1) = if pF p i = 0 then pT p i else pT p i ++ [(i, (pF p i).tmod 4)] := rfl
      by_cases h0 : pF p i = 0
      · rw [if_pos h0] at hsuc
        simp (disch := first | omega | (simp only [lenW] <;> omega)) only [hlt, hi3, hlen, ha, h0, Bool.not_eq_true, wW, wV, simprocAttr]
        refine ⟨i + 1, by omega, by omega, ?_⟩
        rw [hsuc]
        refine ⟨[(50, .blk 50 0), (51, .blk 51 0), (52, .blk 52 0), (62, .blk 62 0), (97, .blk 97 0)], rfl, au0, ?_, au15⟩
        exact RB.cells rfl rfl gg (RnL.same hnr) (RB.cells rfl rfl gg (RnL.same rfl) (RB.cells rfl rfl gg (RnL.cons (Rn.same rfl) (RnL.cons (Rn.same (Qao _)) (RnL.cons (Rn.same (Qao _)) (RnL.cons (Rn.same (Qa6 _)) (RnL.same rfl))))) (RB.cells rfl rfl gg (RnL.cons (Rn.same rfl) (RnL.cons (Rn.x1 rfl rfl) (RnL.same rfl))) (RB.cells rfl rfl gg (RnL.same (QaH _)) RB.nil))))
      · rw [if_neg h0] at hsuc
        have hte1 : List.flatMap teC [(i, (pF p i).tmod 4)] = [.int .i64 (i : Int), .int .i64 ((pF p i).tmod 4)] := rfl
        simp (disch := first | omega | (simp only [lenW] <;> omega)) only [hlt, hi3, hlen, ha, h0, htl, Bool.not_eq_true, wW, wV, simprocAttr]
        refine ⟨i + 1, by omega, by omega, ?_⟩
        rw [hsuc, List.flatMap_append, List.length_append, hte1]
        refine ⟨[(50, .blk 50 0), (51, .blk 51 0), (52, .blk 52 0), (62, .blk 62 0), (97, .blk 97 1)], rfl, au0, ?_, au15⟩
        exact RB.cells rfl rfl gg (RnL.same hnr) (RB.cells rfl rfl gg (RnL.same rfl) (RB.cells rfl rfl gg (RnL.cons (Rn.same rfl) (RnL.cons (Rn.same (Qao _)) (RnL.cons (Rn.same (Qao _)) (RnL.cons (Rn.same (Qa6 _)) (RnL.same rfl))))) (RB.cells rfl rfl gg (RnL.cons (Rn.same rfl) (RnL.cons (Rn.x1 rfl rfl) (RnL.same rfl))) (RB.cells rfl rfl gg (RnL.same (Qa0 (QaH _) rfl)) RB.nil))))
    · have e : i = pN p := by omega
      subst e
      simp (disch := first | omega | (simp only [lenW] <;> omega)) only [hlt, Bool.not_eq_true, wW, wV, simprocAttr]
      refine ⟨(), ?_⟩
      refine ⟨[(51, .blk 51 0), (52, .blk 52 0), (62, .blk 62 0), (97, .blk 97 0)], rfl, au0, ?_, au15⟩
      exact RB.cells rfl rfl gg (RnL.same rfl) (RB.cells rfl rfl gg (RnL.cons (Rn.same rfl) (RnL.cons (Rn.same (Qao _)) (RnL.cons (Rn.same (Qao _)) (RnL.cons (Rn.same (Qa6 _)) (RnL.same rfl))))) (RB.cells rfl rfl gg (RnL.cons (Rn.same rfl) (RnL.cons (Rn.x1 rfl rfl) (RnL.same rfl))) (RB.cells rfl rfl gg (RnL.same (QaH _)) RB.nil)))
  rintro _ _
  have hT0 : flt0 (pT p (pN p)) = pT0 p := rfl
  have hpt := @QiL p (pN p)
  simp (disch := first | omega | (simp only [lenW] <;> omega)) only [Bool.not_eq_true, wW, wV, simprocAttr]
  refine chc (del93F (l := pT p (pN p)) (by omega) gg) ?_
  rw [hT0]
  have htl0 : (pT0 p).length <= 3 := Nat.le_trans (List.length_filter_le _ _) (by omega)
  by_cases h0 : 0 < (pT0 p).length
  · have hks : pKs p = [(pT0 p, p.bd.tmod 8)] := if_pos h0
    simp (disch := first | omega | (simp only [lenW] <;> omega)) only [h0, Bool.not_eq_true, wW, wV, simprocAttr]
    refine ⟨.inr trivial, _, rfl, ?_⟩
    refine Rn.agg (RnL.cons (Rn.same rfl) (RnL.cons (Rn.same (Qao _)) (RnL.cons (Rn.same (Qao _)) (RnL.cons (Rn.same (Qa6 _)) (RnL.cons ?_ RnL.nil)))))
    show Rn 0 π0 _ (cos (pKs p)) _
    rw [hks]
    exact Rn.fz0 (b := 310) rfl rfl (RnL.cons (Rn.same rfl) (RnL.cons (Rn.same (QcE _)) (RnL.cons (Rn.same rfl) RnL.nil)))
  · have hks : pKs p = [] := if_neg h0
    simp (disch := first | omega | (simp only [lenW] <;> omega)) only [h0, Bool.not_eq_true, wW, wV, simprocAttr]
    refine ⟨.inr trivial, _, rfl, ?_⟩
    refine Rn.agg (RnL.cons (Rn.same rfl) (RnL.cons (Rn.same (Qao _)) (RnL.cons (Rn.same (Qao _)) (RnL.cons (Rn.same (Qa6 _)) (RnL.cons ?_ RnL.nil)))))
    show Rn 0 π0 _ (cos (pKs p)) _
    rw [hks]
    exact Rn.nilK
end Go.AM.SU
namespace Go.AM.SN
open Go.Proofs Go.AM.SD Go.AM.SE Go.AM.SO
noncomputable section
def is0 : AV -> Bool | .int .i64 n => decide (n = 0) | _ => false
theorem Qn9 : ∀ u, is0 u = true -> u = .int .i64 0 := by
 intro u h
 unfold is0 at h
 split at h
 ·rename_i n; simp at h; rw [h]
 ·cases h
def nameR (s : List UInt8) (f : Nat) (X K : AV) (i : Int) : Bool := callR ansB noOrc SK.ft.get (exR ansB noOrc SK.ft.get 1000) (.c .pure) 102 [.str s, .fn f [] [.fptr [.any, X, K], .fptr [.int .i64 i]]] .e 64 (fun u _ _ => is0 u)
theorem QmK {s : List UInt8} {f : Nat} {X K : AV} {i : Int} (h : nameR s f X K i = true) : PSpec Tryz.prog 102 [.str s, .fn f [] [.fptr [.any, X, K], .fptr [.int .i64 i]]] (.int .i64 0) :=
 Qbt (t := SK.ft) SK.ft_ok Qc9 (d := 1000) is0 Qn9 h
theorem e0_1 : nameR [101, 48] 101 (.fsl [.str [101, 48], .any] 1 2) .any 0 = true := by kernel_rfl
theorem e1_1 : nameR [101, 49] 101 (.fsl [.str [101, 49], .any] 1 2) .any 0 = true := by kernel_rfl
theorem e0_2 : nameR [101, 48] 101 (.fsl [.str [101, 48], .any, .str [101, 49], .any] 2 2) .any 0 = true := by kernel_rfl
theorem e1_2a : nameR [101, 49] 101 (.fsl [.str [101, 48], .fsl [.any, .any] 1 2, .str [101, 49], .any] 2 2) .any 1 = true := by kernel_rfl
theorem e1_2b : nameR [101, 49] 101 (.fsl [.str [101, 48], .fsl [.any, .any, .any, .any] 2 2, .str [101, 49], .any] 2 2) .any 1 = true := by kernel_rfl
theorem e1_2c : nameR [101, 49] 101 (.fsl [.str [101, 48], .fsl [.any, .any, .any, .any, .any, .any] 3 2, .str [101, 49], .any] 2 2) .any 1 = true := by kernel_rfl
theorem k_1 : nameR [107] 104 .any (.fsl [.str [107], .any, .any] 1 3) 0 = true := by kernel_rfl
def Wk (x y : AV) : Prop := ∀ (ok : Okc) (c : Ctx ok) (w : World) (v : Value), VRel c w x v -> VRel c w y v
def WkL : List AV -> List AV -> Prop
 | [], [] => True
 | x :: xs, y :: ys => Wk x y /\ WkL xs ys
 | _, _ => False
theorem Wk.refl (x : AV) : Wk x x := fun _ _ _ _ h => h
theorem Wk.any {x : AV} : Wk x .any := fun _ _ _ _ _ => by simp [VRel]
theorem WkL.rels {ok : Okc} {c : Ctx ok} {w : World} : ∀ {xs ys : List AV} {vs : List Value}, WkL xs ys -> VRels c w xs vs -> VRels c w ys vs
 | [], [], _, _, hv => hv
 | [], _ :: _, _, h, _ => h.elim
 | _ :: _, [], _, h, _ => h.elim
 | x :: xs, y :: ys, vs, h, hv => by
  simp only [VRels] at hv ⊢
  obtain ⟨v, vs', rfl, h1, h2⟩ := hv
  exact ⟨v, vs', rfl, h.1 _ c w v h1, WkL.rels h.2 h2⟩
theorem WkL.pre {ok : Okc} {c : Ctx ok} {w : World} : ∀ {xs ys : List AV} {vs : List Value}, WkL xs ys -> VPre c w xs vs -> VPre c w ys vs
 | [], [], _, _, hv => hv
 | [], _ :: _, _, h, _ => h.elim
 | _ :: _, [], _, h, _ => h.elim
 | x :: xs, y :: ys, vs, h, hv => by
  simp only [VPre] at hv ⊢
  obtain ⟨v, vs', rfl, h1, h2⟩ := hv
  exact ⟨v, vs', rfl, h.1 _ c w v h1, WkL.pre h.2 h2⟩
theorem WkL.length : ∀ {xs ys : List AV}, WkL xs ys -> xs.length = ys.length
 | [], [], _ => rfl
 | [], _ :: _, h => h.elim
 | _ :: _, [], h => h.elim
 | x :: xs, y :: ys, h => by simp [WkL.length h.2]
theorem Wk.fsl {cs ds : List AV} {len sz : Nat} (h : WkL cs ds) : Wk (.fsl cs len sz) (.fsl ds len sz) := fun _ c w v hv => by
 simp only [VRel] at hv ⊢
 have hl := h.length
 rcases hv with ⟨h1, rfl, h2⟩ | ⟨cb, off, cap, C, e, fr, h1, h2, h3, h4, h5, h6⟩
 ·refine .inl ⟨h1, ?_, h2⟩
  exact List.eq_nil_of_length_eq_zero (by rw [<- hl]; rfl)
 ·exact .inr ⟨cb, off, cap, C, e, fr, h1, h2, by omega, h4, h5, h.pre h6⟩
theorem Wk.fptr {cs ds : List AV} (h : WkL cs ds) : Wk (.fptr cs) (.fptr ds) := fun _ c w v hv => by
 simp only [VRel] at hv ⊢
 obtain ⟨cb, off, C, e, fr, h1, h2, h3, h4⟩ := hv
 exact ⟨cb, off, C, e, fr, h1, h2, h3, h.pre h4⟩
theorem Wk.fn {f : Nat} {xs ys us vs : List AV} (h1 : WkL xs ys) (h2 : WkL us vs) : Wk (.fn f xs us) (.fn f ys vs) := fun _ c w v hv => by
 simp only [VRel] at hv ⊢
 obtain ⟨x', y', rfl, g1, g2⟩ := hv
 exact ⟨x', y', rfl, h1.rels g1, h2.rels g2⟩
theorem PSpec.wk {f : Nat} {args bs : List AV} {v : AV} (hL : WkL args bs) (hn : noRefs args = true) (hp : PSpec Tryz.prog f bs v) : PSpec Tryz.prog f args v := SE.PSpec.weak (fun _ c w vs _ h => hL.rels h) hn hp
theorem nameW {s : List UInt8} {f : Nat} {S X K X' K' : AV} {i : Int} (h : nameR s f X' K' i = true) (hX : Wk X X') (hK : Wk K K') (hn : noRefs [S, X, K] = true) : PSpec Tryz.prog 102 [.str s, .fn f [] [.fptr [S, X, K], .fptr [.int .i64 i]]] (.int .i64 0) := by
 refine PSpec.wk (bs := [.str s, .fn f [] [.fptr [.any, X', K'], .fptr [.int .i64 i]]]) ⟨Wk.refl _, Wk.fn trivial ⟨Wk.fptr ⟨Wk.any, hX, hK, trivial⟩, Wk.refl _, trivial⟩, trivial⟩ ?_ (QmK h)
 simp only [noRefs, noRef, Bool.and_true, Bool.true_and] at hn ⊢
 exact hn
theorem nameX {S K : AV} {xs : List (Nat × List (Nat × Nat))} {i : Nat} {x : Nat × List (Nat × Nat)} (hx : xs[i]? = some x) (h2 : xs.length <= 2) (hs : (xs.map (·.1)).Pairwise (· < ·)) (hl : ∀ x ∈ xs, x.1 < 2) (hne : ∀ x ∈ xs, x.2 ≠ [] /\ x.2.length <= 3) (hn : noRefs [S, exs xs, K] = true) :
  PSpec Tryz.prog 102 [.str [101, UInt8.ofNat (48 + x.1)], .fn 101 [] [.fptr [S, exs xs, K], .fptr [.int .i64 (i : Int)]]] (.int .i64 0) := by
 match xs, h2 with
 | [], _ => simp at hx
 | [(a, la)], _ =>
  have hi : i = 0 := by
   rcases Nat.eq_zero_or_pos i with h | h
   ·exact h
   ·rw [List.getElem?_eq_none (by simp; omega)] at hx; cases hx
  subst hi
  simp at hx; subst hx
  have ha := hl (a, la) (by simp)
  have : a = 0 \/ a = 1 := by dsimp only at ha; omega
  rcases this with rfl | rfl
  ·exact nameW e0_1 (Wk.fsl ⟨Wk.refl _, Wk.any, trivial⟩) Wk.any hn
  ·exact nameW e1_1 (Wk.fsl ⟨Wk.refl _, Wk.any, trivial⟩) Wk.any hn
 | [(a, la), (b, lb)], _ =>
  have ha := hl (a, la) (by simp)
  have hb := hl (b, lb) (by simp)
  have hab : a < b := by simpa using hs
  dsimp only at ha hb
  obtain rfl : a = 0 := by omega
  obtain rfl : b = 1 := by omega
  have hi : i = 0 \/ i = 1 := by
   rcases Nat.lt_or_ge i 2 with h | h
   ·omega
   ·rw [List.getElem?_eq_none (by simp; omega)] at hx; cases hx
  rcases hi with rfl | rfl
  ·simp at hx; subst hx
   exact nameW e0_2 (Wk.fsl ⟨Wk.refl _, Wk.any, Wk.refl _, Wk.any, trivial⟩) Wk.any hn
  ·simp at hx; subst hx
   obtain ⟨h3, h4⟩ := hne (0, la) (by simp)
   match la, h3, h4 with
   | [], h, _ => exact absurd rfl h
   | [p], _, _ => exact nameW e1_2a (Wk.fsl ⟨Wk.refl _, Wk.fsl ⟨Wk.any, Wk.any, trivial⟩, Wk.refl _, Wk.any, trivial⟩) Wk.any hn
   | [p, q], _, _ => exact nameW e1_2b (Wk.fsl ⟨Wk.refl _, Wk.fsl ⟨Wk.any, Wk.any, Wk.any, Wk.any, trivial⟩, Wk.refl _, Wk.any, trivial⟩) Wk.any hn
   | [p, q, r], _, _ => exact nameW e1_2c (Wk.fsl ⟨Wk.refl _, Wk.fsl ⟨Wk.any, Wk.any, Wk.any, Wk.any, Wk.any, Wk.any, trivial⟩, Wk.refl _, Wk.any, trivial⟩) Wk.any hn
theorem nameK {S X : AV} {ks : List (List (Nat × Int) × Int)} {x : List (Nat × Int) × Int} (hx : ks = [x]) (hn : noRefs [S, X, cos ks] = true) :
  PSpec Tryz.prog 102 [.str [107], .fn 104 [] [.fptr [S, X, cos ks], .fptr [.int .i64 0]]] (.int .i64 0) := by
 subst hx
 exact nameW k_1 Wk.any (Wk.fsl ⟨Wk.refl _, Wk.any, Wk.any, trivial⟩) hn
end
end Go.AM.SN
namespace Go.AM.SO
open Go.Proofs Go.AM.SD Go.AM.SE
theorem great190 (n : Int) (h1 : -65536 <= n) (h2 : n <= 65536) : PSpec Tryz.prog 190 [.int .i64 n] (.bool false) := by
 refine PSpec.Qar 64 ok190 rfl rfl rfl ?_
 have g1 : ¬ n < -65536 := by omega
 have g2 : ¬ 65536 < n := by omega
 simp (disch := first | omega | (simp only [lenW] <;> omega)) only [s190, g1, g2, wV, simprocAttr]
 exact ⟨.inr trivial, _, rfl, rfl⟩
abbrev cdC (S : List Nat) (xs : List (Nat × List (Nat × Nat))) (ks : List (List (Nat × Int) × Int)) : List AV := [sliN S, exs xs, cos ks]
abbrev cdV (S : List Nat) (xs : List (Nat × List (Nat × Nat))) (ks : List (List (Nat × Int) × Int)) : AV := .agg (cdC S xs ks)
theorem QcG {S : List Nat} {xs : List (Nat × List (Nat × Nat))} {ks : List (List (Nat × Int) × Int)} : noRefs (cdC S xs ks) = true := by
 rw [cdC, noRefs, noRefs, noRefs, Qac, SU.Qa6, SU.Qhr]; rfl
theorem Qj6 {l : List (Nat × Nat)} {i : Nat} {x : Nat × Nat} (h : l[i]? = some x) : (l.flatMap loC).drop (i * 2) = .int .i64 (x.1 : Int) :: .int .i64 (x.2 : Int) :: (l.drop (i + 1)).flatMap loC := Qbn (f := loC) (k := 2) (fun _ => rfl) h
theorem pw_at {l : List Nat} (h : l.Pairwise (· < ·)) {i : Nat} {x y : Nat} (hx : l[i]? = some x) (hy : l[i + 1]? = some y) : x < y := by
 have hi : i + 1 < l.length := by
  rcases Nat.lt_or_ge (i + 1) l.length with h | h
  ·exact h
  ·rw [List.getElem?_eq_none h] at hy; cases hy
 rw [List.getElem?_eq_getElem (by omega)] at hx
 rw [List.getElem?_eq_getElem hi] at hy
 cases hx; cases hy
 exact List.pairwise_iff_getElem.1 h i (i + 1) (by omega) hi (Nat.lt_succ_self _)
theorem _root_.Go.AM.au16 {p : Prop} (h : p := by repeat (first | exact RT.nil | (refine RT.cons ?_ ?_; · (first | exact Rn.any | exact Rn.x1 rfl rfl | exact Rn.x2 rfl rfl | exact Rn.x3 rfl rfl | exact Rn.x4 rfl rfl | exact Rn.x5 rfl | exact Rn.x6 rfl | exact Rn.x7 rfl | (refine Rn.slot ?_ ?_; (first | rfl | (rw [Int.natCast_add]; rfl)); (first | rfl | (simp only [noRef, noRefs, Qak, Bool.and_self, Bool.and_true, Bool.true_and, Qaa, QaB, Qac, SU.Qbo, SU.QaH, SU.Qb4, SU.Qa2, SU.Qdi]; done))) | (refine Rn.fn ?_ ?_ <;> (repeat' (first | exact RnL.nil | refine RnL.cons ?_ ?_ | exact Rn.same rfl | exact Rn.x6 rfl | exact Rn.x2 rfl rfl | exact Rn.x5 rfl | exact Rn.x1 rfl rfl))))))) : p := h
theorem excl103 (S : List Nat) (xs : List (Nat × List (Nat × Nat))) (ks : List (List (Nat × Int) × Int)) (x : Nat × List (Nat × Nat)) (hS : S.length <= 8) (hS3 : ∀ s ∈ S, s <= 4096) (hl : x.2.length <= 1000) (hne : x.2 ≠ []) (hp : (x.2.map (·.1)).Pairwise (· < ·)) (hs : ∀ l ∈ x.2, ∃ n, S[l.1]? = some n /\ l.2 < n) :
    PSpec Tryz.prog 103 [cdV S xs ks, .agg (exC x)] (.int .i64 0) := by
  obtain ⟨nm, l⟩ := x
  dsimp only at hl hne hp hs
  have hex : exC (nm, l) = [.str [101, UInt8.ofNat (48 + nm)], los l] := rfl
  rw [hex]
  have hnr1 := @QcG S xs ks
  have hnr2 : noRefs [.str [101, UInt8.ofNat (48 + nm)], los l] = true := by rw [noRefs, noRefs, SU.Qdh]; rfl
  refine PSpec.Qar 64 ok103 rfl (by rw [noRefs, noRefs, noRef, noRef, hnr1, hnr2]; rfl) rfl ?_
  have hl0 : ¬ (l.length : Int) = 0 := by
    have := List.length_pos_iff.2 hne
    omega
  have hll := SU.Qga l
  simp (disch := first | omega | (simp only [lenW] <;> omega)) only [s103, hl0, wV, simprocAttr]
  refine QaE 100 (fun i : Nat => [(2, .ptr 50 0 0), (3, .ptr 51 0 0), (12, los l), (13, .int .i64 l.length), (14, .int .i64 i)]) (fun _ => [(50, .cells 0 (cdC S xs ks)), (51, .cells 0 [.str [101, UInt8.ofNat (48 + nm)], los l])]) (fun i => i <= l.length) (fun i => l.length - i) 0 ⟨[(50, .blk 64 0), (51, .blk 65 0)], rfl, au0, ?_, au16⟩ (Nat.zero_le _) ?_
  · exact RB.cells rfl rfl gg (RnL.same hnr1) (RB.cells rfl rfl gg (RnL.same hnr2) RB.nil)
  rintro i hi
  by_cases hlt : i < l.length
  · obtain ⟨⟨c, s⟩, hcs⟩ := Qap hlt
    obtain ⟨n, hn, hsn⟩ := hs _ (List.mem_of_getElem? hcs)
    dsimp only at hn hsn
    have hcl : c < S.length := by
      rcases Nat.lt_or_ge c S.length with h | h
      · exact h
      · rw [List.getElem?_eq_none h] at hn; cases hn
    have hn4 := hS3 n (List.mem_of_getElem? hn)
    have hdr := Qj6 hcs
    have hdl : 2 <= ((l.flatMap loC).drop (i * 2)).length := by rw [hdr]; simp
    have h1 : ¬ (c : Int) < 0 := by omega
    have h2 : ¬ (S.length : Int) <= (c : Int) := by omega
    have h3 : ¬ (s : Int) < 0 := by omega
    have h4 : ¬ (n : Int) <= (s : Int) := by omega
    cases i with
    | zero =>
      have h0 : ¬ (0 : Int) < ((0 : Nat) : Int) := by omega
      simp (disch := first | omega | (simp only [lenW] <;> omega)) only [hlt, hdr, hdl, h0, h1, h2, h3, h4, QaJ hn, hcl, wV, simprocAttr]
      refine ⟨1, by omega, by omega, ?_⟩
      refine ⟨[(50, .blk 50 0), (51, .blk 51 0)], rfl, au0, ?_, au16⟩
      exact RB.cells rfl rfl gg (RnL.same hnr1) (RB.cells rfl rfl gg (RnL.same hnr2) RB.nil)
    | succ j =>
      obtain ⟨⟨c', s'⟩, hcs'⟩ := Qap (l := l) (i := j) (by omega)
      have hdr' := Qj6 hcs'
      have hcc : c' < c := pw_at hp (i := j) (by rw [List.getElem?_map, hcs']; rfl) (by rw [List.getElem?_map, hcs]; rfl)
      have h0 : (0 : Int) < ((j + 1 : Nat) : Int) := by omega
      have h5 : ¬ (c : Int) <= (c' : Int) := by omega
      have h6 : ((j + 1 : Nat) : Int) - 1 = (j : Int) := by omega
      have h7 : j < l.length := by omega
      have hle : ((j + 1 : Nat) : Int) < (l.length : Int) := by omega
      have hJt : ((j + 1 : Nat) : Int).toNat = j + 1 := by omega
      have hJ2 : 0 <= ((j + 1 : Nat) : Int) := by omega
      generalize hJJ : ((j + 1 : Nat) : Int) = J at *
      simp (disch := first | omega | (simp only [lenW] <;> omega)) only [hlt, hle, hJt, hJ2, hdr, hdr', hdl, h0, h1, h2, h3, h4, h5, h6, h7, QaJ hn, hcl, wV, simprocAttr]
      refine ⟨j + 2, by omega, by omega, ?_⟩
      have hJ3 : J + 1 = ((j + 2 : Nat) : Int) := by omega
      rw [hJ3]
      refine ⟨[(50, .blk 50 0), (51, .blk 51 0)], rfl, au0, ?_, au16⟩
      exact RB.cells rfl rfl gg (RnL.same hnr1) (RB.cells rfl rfl gg (RnL.same hnr2) RB.nil)
  · simp (disch := first | omega | (simp only [lenW] <;> omega)) only [hlt, wV, simprocAttr]
    exact ⟨.inr trivial, _, rfl, rfl⟩
theorem cons105 (S : List Nat) (xs : List (Nat × List (Nat × Nat))) (ks : List (List (Nat × Int) × Int)) (x : List (Nat × Int) × Int) (hS : S.length <= 8) (hl : x.1.length <= 1000) (hne : x.1 ≠ []) (hp : (x.1.map (·.1)).Pairwise (· < ·)) (hs : ∀ l ∈ x.1, l.1 < S.length /\ l.2 ≠ 0 /\ -65536 <= l.2 /\ l.2 <= 65536) (hb : -65536 <= x.2 /\ x.2 <= 65536) :
    PSpec Tryz.prog 105 [cdV S xs ks, .agg (coC x)] (.int .i64 0) := by
  obtain ⟨l, bd⟩ := x
  dsimp only at hl hne hp hs hb
  have hex : coC (l, bd) = [.str [107], tes l, .int .i64 bd] := rfl
  rw [hex]
  have hnr1 := @QcG S xs ks
  have hnr2 : noRefs [.str [107], tes l, .int .i64 bd] = true := by rw [noRefs, noRefs, SU.QcE]; rfl
  refine PSpec.Qar 64 ok105 rfl (by rw [noRefs, noRefs, noRef, noRef, hnr1, hnr2]; rfl) rfl ?_
  have hl0 : ¬ (l.length : Int) = 0 := by
    have := List.length_pos_iff.2 hne
    omega
  have hll := SU.QcD l
  have hgb := great190 bd hb.1 hb.2
  simp (disch := first | omega | (simp only [lenW] <;> omega)) only [s105, hl0, wV, simprocAttr]
  refine QaE 100 (fun i : Nat => [(2, .ptr 50 0 0), (3, .ptr 51 0 0), (12, tes l), (13, .int .i64 l.length), (14, .int .i64 i)]) (fun _ => [(50, .cells 0 (cdC S xs ks)), (51, .cells 0 [.str [107], tes l, .int .i64 bd])]) (fun i => i <= l.length) (fun i => l.length - i) 0 ⟨[(50, .blk 64 0), (51, .blk 65 0)], rfl, au0, ?_, au16⟩ (Nat.zero_le _) ?_
  · exact RB.cells rfl rfl gg (RnL.same hnr1) (RB.cells rfl rfl gg (RnL.same hnr2) RB.nil)
  rintro i hi
  by_cases hlt : i < l.length
  · obtain ⟨⟨c, s⟩, hcs⟩ := Qap hlt
    obtain ⟨hcl, hs0, hsa, hsb⟩ := hs _ (List.mem_of_getElem? hcs)
    dsimp only at hcl hs0 hsa hsb
    have hdr := SU.QcR hcs
    have hdl : 2 <= ((l.flatMap teC).drop (i * 2)).length := by rw [hdr]; simp
    have h1 : ¬ (c : Int) < 0 := by omega
    have h2 : ¬ (S.length : Int) <= (c : Int) := by omega
    have hgs := great190 s hsa hsb
    cases i with
    | zero =>
      have h0 : ¬ (0 : Int) < ((0 : Nat) : Int) := by omega
      simp (disch := first | omega | (simp only [lenW] <;> omega)) only [hlt, hdr, hdl, h0, h1, h2, hs0, wV, simprocAttr]
      refine cp hgs ?_
      simp (disch := first | omega | (simp only [lenW] <;> omega)) only [wV, simprocAttr]
      refine ⟨1, by omega, by omega, ?_⟩
      refine ⟨[(50, .blk 50 0), (51, .blk 51 0)], rfl, au0, ?_, au16⟩
      exact RB.cells rfl rfl gg (RnL.same hnr1) (RB.cells rfl rfl gg (RnL.same hnr2) RB.nil)
    | succ j =>
      obtain ⟨⟨c', s'⟩, hcs'⟩ := Qap (l := l) (i := j) (by omega)
      have hdr' := SU.QcR hcs'
      have hcc : c' < c := pw_at hp (i := j) (by rw [List.getElem?_map, hcs']; rfl) (by rw [List.getElem?_map, hcs]; rfl)
      have h0 : (0 : Int) < ((j + 1 : Nat) : Int) := by omega
      have h5 : ¬ (c : Int) <= (c' : Int) := by omega
      have h6 : ((j + 1 : Nat) : Int) - 1 = (j : Int) := by omega
      have h7 : j < l.length := by omega
      have hle : ((j + 1 : Nat) : Int) < (l.length : Int) := by omega
      have hJt : ((j + 1 : Nat) : Int).toNat = j + 1 := by omega
      have hJ2 : 0 <= ((j + 1 : Nat) : Int) := by omega
      generalize hJJ : ((j + 1 : Nat) : Int) = J at *
      simp (disch := first | omega | (simp only [lenW] <;> omega)) only [hlt, hle, hJt, hJ2, hdr, hdr', hdl, h0, h1, h2, hs0, h5, h6, h7, wV, simprocAttr]
      refine cp hgs ?_
      simp (disch := first | omega | (simp only [lenW] <;> omega)) only [wV, simprocAttr]
      refine ⟨j + 2, by omega, by omega, ?_⟩
      have hJ3 : J + 1 = ((j + 2 : Nat) : Int) := by omega
      rw [hJ3]
      refine ⟨[(50, .blk 50 0), (51, .blk 51 0)], rfl, au0, ?_, au16⟩
      exact RB.cells rfl rfl gg (RnL.same hnr1) (RB.cells rfl rfl gg (RnL.same hnr2) RB.nil)
  · simp (disch := first | omega | (simp only [lenW] <;> omega)) only [hlt, wV, simprocAttr]
    refine cp hgb ?_
    simp (disch := first | omega | (simp only [lenW] <;> omega)) only [wV, simprocAttr]
    exact ⟨.inr trivial, _, rfl, rfl⟩
end Go.AM.SO
namespace Go.AM.SQ
open Go.Proofs
def s32 : SFn := ⟨89, [.tmp 2],
 (.seq (.region [Zz 1 (.box .dyn (.t 0)) [],
 Zz 2 (.mov (.c (.int .i64 0))) []] [] [0,2])
 (.seq (.seq (.region [Zf 15 0 1 [],
 Zl 16 15 [0],
 Zv 17 16 [1],
 Zz 18 (.bin .gtr (.t 17) (.c (.int .i64 8))) [2]] [] [15,16,17])
 (.cond (.t 18)
 (.seq (.region [Zz 2 (.mov (.c (.int .i64 3))) []] [] [1,18])
 .ret)
 .skip))
 (.seq (.seq (.region [Zf 19 0 1 [],
 Zl 20 19 [0],
 Zv 21 20 [1],
 Zz 22 (.mov (.c (.int .i64 0))) []] [] [2,18,19])
 (.block 0 (.loop (.seq (.region [Zb 23 .lss 22 21 []] [] [])
 (.seq (.cond (.t 23)
 .skip
 (.exit 0))
 (.seq (.block 1 (.seq (.region [Zi 24 1 20 22 [],
 Zl 25 24 [0],
 Zm 4 25 [1,0,1]] [] [23,24,25])
 (.seq (.region [Zm 26 4 [],
 Zz 27 (.bin .lss (.t 26) (.c (.int .i64 1))) [0],
 Zm 28 27 [1],
 Zx 29 (.mov (.t 4)) [2] 28 false,
 Zx 30 (.bin .gtr (.t 29) (.c (.int .i64 4096))) [3,2] 28 false,
 Zz 31 (.pick (.t 28) (.c (.bool true)) (.t 30)) [2,4]] [] [4,26,27,28])
 (.cond (.t 31)
 (.seq (.region [Zz 2 (.mov (.c (.int .i64 2))) []] [] [1,20,21,22,30,29,41,40,39,38,31])
 .ret)
 .skip))))
 (.region [Zz 32 (.bin .add (.t 22) (.c (.int .i64 1))) [],
 Zm 22 32 [0]] [] [2,31,32])))))))
 (.seq (.seq (.region [Zf 33 1 1 [],
 Zl 34 33 [0],
 Zv 35 34 [1],
 Zz 36 (.bin .gtr (.t 35) (.c (.int .i64 32))) [2],
 Zm 37 36 [3],
 Zx 38 (.faddr 2 (.t 1)) [4] 37 false,
 Zx 39 (.load none (.t 38)) [5,4] 37 false,
 Zx 40 (.len 1 (.t 39)) [6,4] 37 false,
 Zx 41 (.bin .gtr (.t 40) (.c (.int .i64 32))) [7,4] 37 false,
 Zz 42 (.pick (.t 37) (.c (.bool true)) (.t 41)) [4,8]] [] [20,21,22,30,29,41,40,39,38,33,34,35,36,37])
 (.cond (.t 42)
 (.seq (.region [Zz 2 (.mov (.c (.int .i64 3))) []] [] [1,42])
 .ret)
 .skip))
 (.seq (.seq (.region [Zf 43 1 1 [],
 Zl 44 43 [0],
 Zv 45 44 [1],
 Zz 46 (.mov (.c (.int .i64 0))) []] [] [2,42,43])
 (.block 2 (.loop (.seq (.region [Zb 47 .lss 46 45 []] [] [])
 (.seq (.cond (.t 47)
 .skip
 (.exit 2))
 (.seq (.block 3 (.seq (.region [Zm 48 46 [],
 Zi 49 2 44 46 [],
 Zw 50 2 49 [1],
 Zz 5 (.alloc .dyn (.int .i64 0)) [],
 Zz 6 (.alloc .dyn (.agg [(.str []), .nilsl])) [],
 Zs 1 5 48 (Za [3,0] 5),
 Zs 2 6 50 (Za [4,2,5] 6)] [] [47,48,49,50])
 (.seq (.region [Zz 51 (.mkfn 101 [] [(.t 1), (.t 5)]) [],
 Zm 7 51 [0,0]] [] [5,51])
 (.seq (.seq (.region [Zf 52 0 6 [],
 Zl 53 52 [0],
 Zm 54 7 [],
 Zz 55 (.call .heap (.f 102) [(.t 53), (.t 54)]) [1,2],
 Zm 8 55 [3,3,0,1,2,3]] [] [7,52,53,54,55])
 (.seq (.region [Zm 56 8 [],
 Zz 57 (.bin .neq (.t 56) (.c (.int .i64 0))) [0]] [] [56])
 (.cond (.t 57)
 (.seq (.region [Zm 58 8 [],
 Zm 2 58 [0,0]] [] [1,44,45,46,6,8,57,58])
 .ret)
 .skip)))
 (.seq (.region [Zw 59 3 1 [],
 Zw 60 2 6 [],
 Zz 61 (.call .pure (.f 103) [(.t 59), (.t 60)]) [0,1],
 Zm 9 61 [2,2,0,1,2]] [] [2,6,8,57,59,60,61])
 (.seq (.region [Zm 62 9 [],
 Zz 63 (.bin .neq (.t 62) (.c (.int .i64 0))) [0]] [] [62])
 (.cond (.t 63)
 (.seq (.region [Zm 64 9 [],
 Zm 2 64 [0,0]] [] [1,44,45,46,9,63,64])
 .ret)
 .skip)))))))
 (.region [Zz 65 (.bin .add (.t 46) (.c (.int .i64 1))) [],
 Zm 46 65 [0]] [] [2,9,63,65])))))))
 (.seq (.seq (.region [Zf 66 2 1 [],
 Zl 67 66 [0],
 Zv 68 67 [1],
 Zz 69 (.mov (.c (.int .i64 0))) []] [] [44,45,46,66])
 (.block 4 (.loop (.seq (.region [Zb 70 .lss 69 68 []] [] [])
 (.seq (.cond (.t 70)
 .skip
 (.exit 4))
 (.seq (.block 5 (.seq (.region [Zm 71 69 [],
 Zi 72 3 67 69 [],
 Zw 73 3 72 [1],
 Zz 10 (.alloc .dyn (.int .i64 0)) [],
 Zz 11 (.alloc .dyn (.agg [(.str []), .nilsl, (.int .i64 0)])) [],
 Zs 1 10 71 (Za [3,0] 5),
 Zs 3 11 73 (Za [4,2,5] 6)] [] [70,71,72,73])
 (.seq (.region [Zz 74 (.mkfn 104 [] [(.t 1), (.t 10)]) [],
 Zm 12 74 [0,0]] [] [10,74])
 (.seq (.seq (.region [Zf 75 0 11 [],
 Zl 76 75 [0],
 Zm 77 12 [],
 Zz 78 (.call .heap (.f 102) [(.t 76), (.t 77)]) [1,2],
 Zm 13 78 [3,3,0,1,2,3]] [] [12,75,76,77,78])
 (.seq (.region [Zm 79 13 [],
 Zz 80 (.bin .neq (.t 79) (.c (.int .i64 0))) [0]] [] [79])
 (.cond (.t 80)
 (.seq (.region [Zm 81 13 [],
 Zm 2 81 [0,0]] [] [1,67,68,69,11,13,80,81])
 .ret)
 .skip)))
 (.seq (.region [Zw 82 3 1 [],
 Zw 83 3 11 [],
 Zz 84 (.call .pure (.f 105) [(.t 82), (.t 83)]) [0,1],
 Zm 14 84 [2,2,0,1,2]] [] [2,11,13,80,82,83,84])
 (.seq (.region [Zm 85 14 [],
 Zz 86 (.bin .neq (.t 85) (.c (.int .i64 0))) [0]] [] [85])
 (.cond (.t 86)
 (.seq (.region [Zm 87 14 [],
 Zm 2 87 [0,0]] [] [1,67,68,69,14,86,87])
 .ret)
 .skip)))))))
 (.region [Zz 88 (.bin .add (.t 69) (.c (.int .i64 1))) [],
 Zm 69 88 [0]] [] [2,14,86,88])))))))
 (.seq (.region [Zz 2 (.mov (.c (.int .i64 0))) []] [] [1,67,68,69])
 .ret)))))))⟩
theorem ok32 : okFn Tryz.prog 32 s32 = true := by kernel_rfl
end Go.AM.SQ
namespace Go.AM.SO
open Go.Proofs Go.AM.SD Go.AM.SE
def szs (c : Cel) : List Nat := c.cs.map (·.2.n)
theorem WfCel.comp {c : Cel} (h : WfCel c) {x : Nat × List (Nat × Nat)} (hx : x ∈ c.xs) : ∀ l ∈ x.2, ∃ n, (szs c)[l.1]? = some n /\ l.2 < n := fun l hl => by
 obtain ⟨y, h1, h2⟩ := (h.xl x hx).2.2 l hl
 exact ⟨y.2.n, by unfold szs; rw [List.getElem?_map, h1]; rfl, h2⟩
theorem WfCel.xlen {c : Cel} (h : WfCel c) {x : Nat × List (Nat × Nat)} (hx : x ∈ c.xs) : x.2.length <= 3 := by
  have h1 := QaL c.cs.length (x.2.map (·.1)) (by rw [List.nodup_iff_pairwise_ne]; exact (h.xl x hx).2.1.imp fun h => by omega) (fun y hy => by
    obtain ⟨l, hl, rfl⟩ := List.mem_map.1 hy
    obtain ⟨z, h1, _⟩ := (h.xl x hx).2.2 l hl
    rcases Nat.lt_or_ge l.1 c.cs.length with h | h
    · exact h
    · rw [List.getElem?_eq_none h] at h1; cases h1)
  rw [List.length_map] at h1
  exact Nat.le_trans h1 h.c3
theorem WfCel.klen {c : Cel} (h : WfCel c) {x : List (Nat × Int) × Int} (hx : x ∈ c.ks) : x.1.length <= 3 := by
  have h1 := QaL c.cs.length (x.1.map (·.1)) (by rw [List.nodup_iff_pairwise_ne]; exact (h.kl x hx).2.1.imp fun h => by omega) (fun y hy => by
    obtain ⟨l, hl, rfl⟩ := List.mem_map.1 hy
    exact ((h.kl x hx).2.2.1 l hl).1)
  rw [List.length_map] at h1
  exact Nat.le_trans h1 h.c3
theorem WfCel.slen {c : Cel} (h : WfCel c) : (szs c).length = c.cs.length := by simp [szs]
theorem WfCel.sz {c : Cel} (h : WfCel c) : ∀ s ∈ szs c, 1 <= s /\ s <= 3 := fun s hs => by
 obtain ⟨x, hx, rfl⟩ := List.mem_map.1 hs
 exact ⟨(h.ca x hx).pos, (h.ca x hx).n3⟩
theorem Qj7 {l : List (Nat × List (Nat × Nat))} {i : Nat} {x : Nat × List (Nat × Nat)} (h : l[i]? = some x) : (l.flatMap exC).drop (i * 2) = .str [101, UInt8.ofNat (48 + x.1)] :: los x.2 :: (l.drop (i + 1)).flatMap exC := Qbn (f := exC) (k := 2) (fun _ => rfl) h
theorem Qj8 {l : List (List (Nat × Int) × Int)} {i : Nat} {x : List (Nat × Int) × Int} (h : l[i]? = some x) : (l.flatMap coC).drop (i * 3) = .str [107] :: tes x.1 :: .int .i64 x.2 :: (l.drop (i + 1)).flatMap coC := Qbn (f := coC) (k := 3) (fun _ => rfl) h
theorem Qgb (l : List (List (Nat × Int) × Int)) : (l.flatMap coC).length = l.length * 3 := Qcm (k := 3) (fun _ => rfl) l
theorem conds32 (c : Cel) (h : WfCel c) : PSpec Tryz.prog 32 [cdV (szs c) c.xs c.ks] (.int .i64 0) := by
  have hnr := @QcG (szs c) c.xs c.ks
  refine PSpec.Qar 64 SQ.ok32 rfl (by rw [noRefs, noRef, hnr]; rfl) rfl ?_
  have hsl := h.slen
  have hc3 := h.c3
  have hx2 := h.x2
  have hk1 := h.k1
  have g1 : ¬ (8 : Int) < ((szs c).length : Int) := by omega
  have g2 : ¬ (32 : Int) < (c.xs.length : Int) := by omega
  have g3 : ¬ (32 : Int) < (c.ks.length : Int) := by omega
  have hxn : ∀ x ∈ c.xs, x.2 ≠ [] /\ x.2.length <= 3 := fun x hx => ⟨(h.xl x hx).1, h.xlen hx⟩
  simp (disch := first | omega | (simp only [lenW] <;> omega)) only [SQ.s32, g1, wW, wV, simprocAttr]
  refine Qav 100 (fun i : Nat => [(1, .ptr 50 0 0), (20, sliN (szs c)), (21, .int .i64 (szs c).length), (22, .int .i64 i)]) (fun _ => [(50, .cells 0 (cdC (szs c) c.xs c.ks))]) (fun i => i <= (szs c).length) (fun i => (szs c).length - i) 0 0 140
    (fun _ : Unit => [(1, .ptr 50 0 0)]) (fun _ => [(50, .cells 0 (cdC (szs c) c.xs c.ks))]) (fun _ => True) ⟨[(50, .blk 64 0)], rfl, au0, ?_, au16⟩ (Nat.zero_le _) ?_ ?_
  · exact RB.cells rfl rfl gg (RnL.same hnr) RB.nil
  · rintro i hi
    by_cases hlt : i < (szs c).length
    · obtain ⟨s, hs⟩ := Qap hlt
      obtain ⟨hs1, hs3⟩ := h.sz s (List.mem_of_getElem? hs)
      have q1 : ¬ (s : Int) < 1 := by omega
      have q2 : ¬ (4096 : Int) < (s : Int) := by omega
      simp (disch := first | omega | (simp only [lenW] <;> omega)) only [hlt, QaJ hs, q1, q2, wW, wV, simprocAttr]
      refine ⟨i + 1, by omega, by omega, ?_⟩
      refine ⟨[(50, .blk 50 0)], rfl, au0, ?_, au16⟩
      exact RB.cells rfl rfl gg (RnL.same hnr) RB.nil
    · simp (disch := first | omega | (simp only [lenW] <;> omega)) only [hlt, wW, wV, simprocAttr]
      refine ⟨(), ?_⟩
      refine ⟨[(50, .blk 50 0)], rfl, au0, ?_, au16⟩
      exact RB.cells rfl rfl gg (RnL.same hnr) RB.nil
  rintro _ _
  simp (disch := first | omega | (simp only [lenW] <;> omega)) only [g2, g3, wW, wV, simprocAttr]
  refine Qav 200 (fun i : Nat => [(1, .ptr 50 0 0), (44, exs c.xs), (45, .int .i64 c.xs.length), (46, .int .i64 i)]) (fun _ => [(50, .cells 0 (cdC (szs c) c.xs c.ks))]) (fun i => i <= c.xs.length) (fun i => c.xs.length - i) 0 2 240
    (fun _ : Unit => [(1, .ptr 50 0 0)]) (fun _ => [(50, .cells 0 (cdC (szs c) c.xs c.ks))]) (fun _ => True) ⟨[(50, .blk 50 0)], rfl, au0, ?_, au16⟩ (Nat.zero_le _) ?_ ?_
  · exact RB.cells rfl rfl gg (RnL.same hnr) RB.nil
  · rintro i hi
    by_cases hlt : i < c.xs.length
    · obtain ⟨x, hx⟩ := Qap hlt
      have hxm := List.mem_of_getElem? hx
      have hdr := Qj7 hx
      have hdl : 2 <= ((c.xs.flatMap exC).drop (i * 2)).length := by rw [hdr]; simp
      have hN := SN.nameX hx hx2 h.xn.1 h.xn.2 hxn hnr
      have hE := excl103 (szs c) c.xs c.ks x (by omega) (fun s hs => by have := h.sz s hs; omega) (by have := h.xlen hxm; omega) (h.xl x hxm).1 (h.xl x hxm).2.1 (h.comp hxm)
      have hex : exC x = [.str [101, UInt8.ofNat (48 + x.1)], los x.2] := rfl
      rw [hex] at hE
      simp (disch := first | omega | (simp only [lenW] <;> omega)) only [hlt, hdr, hdl, wW, wV, simprocAttr]
      refine SU.chc (HSpec.lend (FrzL.cons (FrzTo.same _) (FrzL.cons (FrzTo.fn FrzL.nil (FrzL.cons (FrzTo.ptr (g := 0) (cs := cdC (szs c) c.xs c.ks) gg (FrzL.same _)) (FrzL.cons (FrzTo.ptr (g := 0) (cs := [.int .i64 (i : Int)]) gg (FrzL.same _)) FrzL.nil))) FrzL.nil)) hN rfl) ?_
      simp (disch := first | omega | (simp only [lenW] <;> omega)) only [wW, wV, simprocAttr]
      refine cp hE ?_
      simp (disch := first | omega | (simp only [lenW] <;> omega)) only [wW, wV, simprocAttr]
      refine ⟨i + 1, by omega, by omega, ?_⟩
      refine ⟨[(50, .blk 50 0)], rfl, au0, ?_, au16⟩
      exact RB.cells rfl rfl gg (RnL.same hnr) RB.nil
    · simp (disch := first | omega | (simp only [lenW] <;> omega)) only [hlt, wW, wV, simprocAttr]
      refine ⟨(), ?_⟩
      refine ⟨[(50, .blk 50 0)], rfl, au0, ?_, au16⟩
      exact RB.cells rfl rfl gg (RnL.same hnr) RB.nil
  rintro _ _
  simp (disch := first | omega | (simp only [lenW] <;> omega)) only [wW, wV, simprocAttr]
  refine QaE 300 (fun i : Nat => [(1, .ptr 50 0 0), (67, cos c.ks), (68, .int .i64 c.ks.length), (69, .int .i64 i)]) (fun _ => [(50, .cells 0 (cdC (szs c) c.xs c.ks))]) (fun i => i <= c.ks.length) (fun i => c.ks.length - i) 0 ⟨[(50, .blk 50 0)], rfl, au0, ?_, au16⟩ (Nat.zero_le _) ?_
  · exact RB.cells rfl rfl gg (RnL.same hnr) RB.nil
  rintro i hi
  by_cases hlt : i < c.ks.length
  · obtain ⟨x, hx⟩ := Qap hlt
    have hi0 : i = 0 := by omega
    subst hi0
    have hxm := List.mem_of_getElem? hx
    have hdr := Qj8 hx
    rw [Nat.zero_mul] at hdr
    have hdl : 3 <= (c.ks.flatMap coC).length := by rw [Qgb]; omega
    have hks : c.ks = [x] := by
      match hk : c.ks, hx, hk1 with
      | [y], hx, _ => simp at hx; rw [hx]
    have hN := SN.nameK (S := sliN (szs c)) (X := exs c.xs) hks hnr
    obtain ⟨k1, k2, k3, k4, k5⟩ := h.kl x hxm
    have hE := cons105 (szs c) c.xs c.ks x (by omega) (by have := h.klen hxm; omega) k1 k2 (fun l hl => by obtain ⟨q1, q2, q3, q4⟩ := k3 l hl; exact ⟨by omega, q2, by omega, by omega⟩) ⟨by omega, by omega⟩
    have hex : coC x = [.str [107], tes x.1, .int .i64 x.2] := rfl
    rw [hex] at hE
    have hlt0 : (0 : Int) < (c.ks.length : Int) := by omega
    rw [List.drop_zero] at hdr
    have htk : List.take 3 (c.ks.flatMap coC) = [.str [107], tes x.1, .int .i64 x.2] := by rw [hdr]; rfl
    simp (disch := first | omega | (simp only [lenW] <;> omega)) only [hlt, hlt0, htk, hdl, wW, wV, simprocAttr]
    refine SU.chc (HSpec.lend (FrzL.cons (FrzTo.same _) (FrzL.cons (FrzTo.fn FrzL.nil (FrzL.cons (FrzTo.ptr (g := 0) (cs := cdC (szs c) c.xs c.ks) gg (FrzL.same _)) (FrzL.cons (FrzTo.ptr (g := 0) (cs := [.int .i64 0]) gg (FrzL.same _)) FrzL.nil))) FrzL.nil)) hN rfl) ?_
    simp (disch := first | omega | (simp only [lenW] <;> omega)) only [wW, wV, simprocAttr]
    refine cp hE ?_
    simp (disch := first | omega | (simp only [lenW] <;> omega)) only [wW, wV, simprocAttr]
    refine ⟨1, by omega, by omega, ?_⟩
    refine ⟨[(50, .blk 50 0)], rfl, au0, ?_, au16⟩
    exact RB.cells rfl rfl gg (RnL.same hnr) RB.nil
  · simp (disch := first | omega | (simp only [lenW] <;> omega)) only [hlt, wW, wV, simprocAttr]
    exact ⟨.inr trivial, _, rfl, rfl⟩
end Go.AM.SO
namespace Go.AM.SO
open Go.Proofs Go.AM.SD Go.AM.SE
theorem Qfy {α : Type} {f : α -> List AV} (hf : ∀ x, (f x).all AV.one = true) : ∀ l : List α, (l.flatMap f).all AV.one = true
 | [] => rfl
 | x :: l => by rw [List.flatMap_cons, List.all_append, hf, Qfy hf l]; rfl
theorem clone148 (l : List (Nat × Nat)) (hl : l.length <= 1000) (hne : l ≠ []) : PSpec Tryz.prog 148 [los l] (los l) := by
 refine PSpec.of_rn 100 ok148 rfl (by rw [noRefs, SU.Qdh]; rfl) (SU.Qdh _) ?_
 have hq : aEqN false (los l) = .ret (.bool false) := by
  match l, hne with
  | x :: l, _ => rfl
 have hone : (l.flatMap loC).all AV.one = true := Qfy (fun _ => rfl) l
 have hln := SU.Qga l
 simp (disch := first | omega | (simp only [lenW] <;> omega)) only [s148, hq, hone, hln, wW, wV, simprocAttr]
 exact ⟨.inr trivial, _, rfl, Rn.fz0 rfl hln (RnL.same (SU.Qbo _))⟩
theorem clone149 (l : List (Nat × Int)) (hl : l.length <= 1000) (hne : l ≠ []) : PSpec Tryz.prog 149 [tes l] (tes l) := by
 refine PSpec.of_rn 100 ok149 rfl (by rw [noRefs, SU.QcE]; rfl) (SU.QcE _) ?_
 have hq : aEqN false (tes l) = .ret (.bool false) := by
  match l, hne with
  | x :: l, _ => rfl
 have hone : (l.flatMap teC).all AV.one = true := Qfy (fun _ => rfl) l
 have hln := SU.QcD l
 simp (disch := first | omega | (simp only [lenW] <;> omega)) only [s149, hq, hone, hln, wW, wV, simprocAttr]
 exact ⟨.inr trivial, _, rfl, Rn.fz0 rfl hln (RnL.same (SU.QaH _))⟩
theorem take_succ' {α : Type} {l : List α} {i : Nat} {x : α} (h : l[i]? = some x) : l.take (i + 1) = l.take i ++ [x] := by
 rw [List.take_add_one, h]; rfl
theorem Qoa {x : Nat × List (Nat × Nat)} : List.flatMap exC [x] = [.str [101, UInt8.ofNat (48 + x.1)], los x.2] := rfl
theorem Qob {x : List (Nat × Int) × Int} : List.flatMap coC [x] = [.str [107], tes x.1, .int .i64 x.2] := rfl
theorem conds85 (c : Cel) (h : WfCel c) : PSpec Tryz.prog 85 [celV c] (cdV (szs c) c.xs c.ks) := by
  have hnr : noRefs [evsV c.ev, its 99 c.cs, its 114 c.rs, exs c.xs, cos c.ks] = true := by
    have := SU.QbH c
    rwa [celV, noRef] at this
  refine PSpec.of_rn 64 ok85 rfl (by rw [noRefs, SU.QbH]; rfl) (by rw [noRef]; exact QcG) ?_
  have hc3 := h.c3
  have hx2 := h.x2
  have hk1 := h.k1
  have hci := @SU.QcF 99 c.cs
  have hxi := SU.QdC c.xs
  have hki := Qgb c.ks
  simp (disch := first | omega | (simp only [lenW] <;> omega)) only [s85, wW, wV, simprocAttr]
  refine Qav 100 (fun i : Nat => [(1, .ptr 50 0 0), (2, .ptr 51 0 0), (3, .ptr 52 0 0), (12, its 99 c.cs), (13, .int .i64 c.cs.length), (14, .int .i64 i)]) (fun i => [(50, .cells 0 [evsV c.ev, its 99 c.cs, its 114 c.rs, exs c.xs, cos c.ks]), (51, .cells 0 [.nilsl, .nilsl, .nilsl]), (52, .cells 0 [.sl 76 0 0 (szs c |>.take i).length 1, .nilsl, .nilsl]), (76, .cells 0 (ints (nz ((szs c).take i))))]) (fun i => i <= c.cs.length) (fun i => c.cs.length - i) 0 0 160
    (fun _ : Unit => [(1, .ptr 50 0 0), (2, .ptr 51 0 0), (3, .ptr 52 0 0)]) (fun _ => [(50, .cells 0 [evsV c.ev, its 99 c.cs, its 114 c.rs, exs c.xs, cos c.ks]), (51, .cells 0 [.nilsl, .nilsl, .nilsl]), (52, .cells 0 [sliN (szs c), .nilsl, .nilsl])]) (fun _ => True) ⟨[(50, .blk 64 0), (51, .blk 65 0), (52, .blk 67 0), (76, .nil)], rfl, au0, ?_, au16⟩ (Nat.zero_le _) ?_ ?_
  · exact RB.cells rfl rfl gg (RnL.same hnr) (RB.cells rfl rfl gg (RnL.same rfl) (RB.cells rfl rfl gg (RnL.cons (Rn.x4 rfl rfl) (RnL.same rfl)) (RB.newnil rfl rfl RB.nil)))
  · rintro i hi
    by_cases hlt : i < c.cs.length
    · obtain ⟨x, hx⟩ := Qap hlt
      have hdr := SU.Qb5 (ch := 99) hx
      have hdl : 5 <= ((c.cs.flatMap (itC 99)).drop (i * 5)).length := by rw [hdr]; simp
      have hsx : (szs c)[i]? = some x.2.n := by unfold szs; rw [List.getElem?_map, hx]; rfl
      have hsuc := take_succ' hsx
      have htl : ((szs c).take i).length = i := by rw [List.length_take, h.slen]; omega
      have hone := @SU.QcJ [99, UInt8.ofNat (48 + x.1)] x.2
      simp (disch := first | omega | (simp only [lenW] <;> omega)) only [hlt, hdr, hdl, htl, wW, wV, simprocAttr]
      refine ⟨i + 1, by omega, by omega, ?_⟩
      rw [hsuc, List.length_append, QaF, Qax, htl]
      refine ⟨[(50, .blk 50 0), (51, .blk 51 0), (52, .blk 52 0), (76, .blk 76 1)], rfl, au0, ?_, au16⟩
      exact RB.cells rfl rfl gg (RnL.same hnr) (RB.cells rfl rfl gg (RnL.same rfl) (RB.cells rfl rfl gg (RnL.cons (Rn.x1 rfl rfl) (RnL.same rfl)) (RB.cells rfl rfl gg (RnL.same (SU.Qa0 (Qaa _) rfl)) RB.nil)))
    · have e : i = c.cs.length := by omega
      subst e
      have hta : (szs c).take c.cs.length = szs c := by rw [<- h.slen, List.take_length]
      simp (disch := first | omega | (simp only [lenW] <;> omega)) only [hlt, hta, wW, wV, simprocAttr]
      refine ⟨(), ?_⟩
      refine ⟨[(50, .blk 50 0), (51, .blk 51 0), (52, .blk 52 0)], rfl, au0, ?_, au16⟩
      exact RB.cells rfl rfl gg (RnL.same hnr) (RB.cells rfl rfl gg (RnL.same rfl) (RB.cells rfl rfl gg (RnL.cons (Rn.fzm rfl rfl rfl rfl (by simp [ints]) (RnL.same (Qaa _))) (RnL.same rfl)) RB.nil))
  rintro _ _
  simp (disch := first | omega | (simp only [lenW] <;> omega)) only [wW, wV, simprocAttr]
  refine Qav 200 (fun i : Nat => [(1, .ptr 50 0 0), (2, .ptr 51 0 0), (3, .ptr 52 0 0), (28, exs c.xs), (29, .int .i64 c.xs.length), (30, .int .i64 i)]) (fun i => [(50, .cells 0 [evsV c.ev, its 99 c.cs, its 114 c.rs, exs c.xs, cos c.ks]), (51, .cells 0 [.nilsl, .nilsl, .nilsl]), (52, .cells 0 [sliN (szs c), .sl 77 0 0 (c.xs.take i).length 2, .nilsl]), (77, .cells 0 ((c.xs.take i).flatMap exC))]) (fun i => i <= c.xs.length) (fun i => c.xs.length - i) 0 2 260
    (fun _ : Unit => [(1, .ptr 50 0 0), (2, .ptr 51 0 0), (3, .ptr 52 0 0)]) (fun _ => [(50, .cells 0 [evsV c.ev, its 99 c.cs, its 114 c.rs, exs c.xs, cos c.ks]), (51, .cells 0 [.nilsl, .nilsl, .nilsl]), (52, .cells 0 [sliN (szs c), exs c.xs, .nilsl])]) (fun _ => True) ⟨[(50, .blk 50 0), (51, .blk 51 0), (52, .blk 52 0), (77, .nil)], rfl, au0, ?_, au16⟩ (Nat.zero_le _) ?_ ?_
  · exact RB.cells rfl rfl gg (RnL.same hnr) (RB.cells rfl rfl gg (RnL.same rfl) (RB.cells rfl rfl gg (RnL.cons (Rn.same (Qac _)) (RnL.cons (Rn.x4 rfl rfl) (RnL.same rfl))) (RB.newnil rfl rfl RB.nil)))
  · rintro i hi
    by_cases hlt : i < c.xs.length
    · obtain ⟨x, hx⟩ := Qap hlt
      have hxm := List.mem_of_getElem? hx
      have hdr := Qj7 hx
      have hdl : 2 <= ((c.xs.flatMap exC).drop (i * 2)).length := by rw [hdr]; simp
      have hsuc := take_succ' hx
      have htl : (c.xs.take i).length = i := by rw [List.length_take]; omega
      have hcl := clone148 x.2 (by have := h.xlen hxm; omega) (h.xl x hxm).1
      have hxl := SU.QdC (c.xs.take i)
      rw [htl] at hxl
      simp (disch := first | omega | (simp only [lenW] <;> omega)) only [hlt, hdr, hdl, htl, wW, wV, simprocAttr]
      refine cp hcl ?_
      simp (disch := first | omega | (simp only [lenW] <;> omega)) only [hxl, wW, wV, simprocAttr]
      refine ⟨i + 1, by omega, by omega, ?_⟩
      rw [hsuc, List.length_append, List.flatMap_append, htl, Qoa]
      refine ⟨[(50, .blk 50 0), (51, .blk 51 0), (52, .blk 52 0), (77, .blk 77 1)], rfl, au0, ?_, au16⟩
      exact RB.cells rfl rfl gg (RnL.same hnr) (RB.cells rfl rfl gg (RnL.same rfl) (RB.cells rfl rfl gg (RnL.cons (Rn.same (Qac _)) (RnL.cons (Rn.x1 rfl rfl) (RnL.same rfl))) (RB.cells rfl rfl gg (RnL.same (SU.Qa0 (SU.Qa2 _) (by rw [noRefs, noRefs, SU.Qdh]; rfl))) RB.nil)))
    · have e : i = c.xs.length := by omega
      subst e
      simp (disch := first | omega | (simp only [lenW] <;> omega)) only [hlt, List.take_length, wW, wV, simprocAttr]
      refine ⟨(), ?_⟩
      refine ⟨[(50, .blk 50 0), (51, .blk 51 0), (52, .blk 52 0)], rfl, au0, ?_, au16⟩
      exact RB.cells rfl rfl gg (RnL.same hnr) (RB.cells rfl rfl gg (RnL.same rfl) (RB.cells rfl rfl gg (RnL.cons (Rn.same (Qac _)) (RnL.cons (Rn.fzm rfl rfl rfl rfl (SU.QdC _) (RnL.same (SU.Qa2 _))) (RnL.same rfl))) RB.nil))
  rintro _ _
  simp (disch := first | omega | (simp only [lenW] <;> omega)) only [wW, wV, simprocAttr]
  refine Qav 300 (fun i : Nat => [(2, .ptr 51 0 0), (3, .ptr 52 0 0), (47, cos c.ks), (48, .int .i64 c.ks.length), (49, .int .i64 i)]) (fun i => [(51, .cells 0 [.nilsl, .nilsl, .nilsl]), (52, .cells 0 [sliN (szs c), exs c.xs, .sl 78 0 0 (c.ks.take i).length 3]), (78, .cells 0 ((c.ks.take i).flatMap coC))]) (fun i => i <= c.ks.length) (fun i => c.ks.length - i) 0 4 360
    (fun _ : Unit => [(2, .ptr 51 0 0), (3, .ptr 52 0 0)]) (fun _ => [(51, .cells 0 [.nilsl, .nilsl, .nilsl]), (52, .cells 0 [sliN (szs c), exs c.xs, cos c.ks])]) (fun _ => True) ⟨[(51, .blk 51 0), (52, .blk 52 0), (78, .nil)], rfl, au0, ?_, au16⟩ (Nat.zero_le _) ?_ ?_
  · exact RB.cells rfl rfl gg (RnL.same rfl) (RB.cells rfl rfl gg (RnL.cons (Rn.same (Qac _)) (RnL.cons (Rn.same (SU.Qa6 _)) (RnL.cons (Rn.x4 rfl rfl) RnL.nil))) (RB.newnil rfl rfl RB.nil))
  · rintro i hi
    by_cases hlt : i < c.ks.length
    · obtain ⟨x, hx⟩ := Qap hlt
      have hxm := List.mem_of_getElem? hx
      have hdr := Qj8 hx
      have hdl : 3 <= ((c.ks.flatMap coC).drop (i * 3)).length := by rw [hdr]; simp
      have hsuc := take_succ' hx
      have htl : (c.ks.take i).length = i := by rw [List.length_take]; omega
      have hcl := clone149 x.1 (by have := h.klen hxm; omega) (h.kl x hxm).1
      have hxl := Qgb (c.ks.take i)
      rw [htl] at hxl
      simp (disch := first | omega | (simp only [lenW] <;> omega)) only [hlt, hdr, hdl, htl, wW, wV, simprocAttr]
      refine cp hcl ?_
      simp (disch := first | omega | (simp only [lenW] <;> omega)) only [hxl, wW, wV, simprocAttr]
      refine ⟨i + 1, by omega, by omega, ?_⟩
      rw [hsuc, List.length_append, List.flatMap_append, htl, Qob]
      refine ⟨[(51, .blk 51 0), (52, .blk 52 0), (78, .blk 78 1)], rfl, au0, ?_, au16⟩
      exact RB.cells rfl rfl gg (RnL.same rfl) (RB.cells rfl rfl gg (RnL.cons (Rn.same (Qac _)) (RnL.cons (Rn.same (SU.Qa6 _)) (RnL.cons (Rn.x1 rfl rfl) RnL.nil))) (RB.cells rfl rfl gg (RnL.same (SU.Qa0 (SU.Qdi _) (by rw [noRefs, noRefs, SU.QcE]; rfl))) RB.nil))
    · have e : i = c.ks.length := by omega
      subst e
      simp (disch := first | omega | (simp only [lenW] <;> omega)) only [hlt, List.take_length, wW, wV, simprocAttr]
      refine ⟨(), ?_⟩
      refine ⟨[(51, .blk 51 0), (52, .blk 52 0)], rfl, au0, ?_, au16⟩
      exact RB.cells rfl rfl gg (RnL.same rfl) (RB.cells rfl rfl gg (RnL.cons (Rn.same (Qac _)) (RnL.cons (Rn.same (SU.Qa6 _)) (RnL.cons (Rn.fzm rfl rfl rfl rfl (Qgb _) (RnL.same (SU.Qdi _))) RnL.nil))) RB.nil)
  rintro _ _
  simp (disch := first | omega | (simp only [lenW] <;> omega)) only [wW, wV, simprocAttr]
  refine ⟨.inr trivial, _, rfl, ?_⟩
  exact Rn.same (by rw [noRef]; exact QcG)
end Go.AM.SO
namespace Go.AM.SO
open Go.Proofs Go.AM.SD Go.AM.SE
def idxQ {α : Type} (q : α -> Bool) (l : List α) : Int := if l.any q then (l.findIdx q : Int) else -1
theorem Ql5 {α : Type} {q : α -> Bool} {l : List α} (h : ∀ x ∈ l, q x = false) : idxQ q l = -1 := by
 unfold idxQ
 rw [if_neg]
 rw [List.any_eq_true]
 rintro ⟨x, hx, hq⟩
 rw [h x hx] at hq; cases hq
theorem Qno {α : Type} {q : α -> Bool} {l : List α} {i : Nat} {x : α} (hx : l[i]? = some x) (hq : q x = true) (hb : ∀ (j : Nat) y, j < i -> l[j]? = some y -> q y = false) : idxQ q l = i := by
 have hlt : i < l.length := by
  rcases Nat.lt_or_ge i l.length with h | h
  ·exact h
  ·rw [List.getElem?_eq_none h] at hx; cases hx
 have h1 : l.any q = true := List.any_eq_true.2 ⟨x, List.mem_of_getElem? hx, hq⟩
 have h2 : l.findIdx q = i := by
  rw [List.findIdx_eq hlt]
  refine ⟨by rw [List.getElem?_eq_getElem hlt] at hx; cases hx; exact hq, fun j hj => hb j l[j] hj (List.getElem?_eq_getElem (by omega))⟩
 unfold idxQ
 rw [if_pos h1, h2]
theorem Qnp {α : Type} {q : α -> Bool} {l : List α} : decide (0 <= idxQ q l) = l.any q := by
 unfold idxQ
 cases h : l.any q
 ·simp
 ·simp
theorem Qey {K : Nat} {cap : List AV} (h : noRefs cap = true) : noRef (.fn K [] cap) = true := by
 simp only [noRef, noRefs, h]; rfl
theorem index110 {K : Nat} {cap : List AV} (q : Nat -> Bool) (l : List Nat) (hl : l.length <= 1000000) (hc : noRefs cap = true) (hk : ∀ x ∈ l, PSpec Tryz.prog K (.int .i64 (x : Int) :: cap) (.bool (q x))) : PSpec Tryz.prog 110 [sliN l, .fn K [] cap] (.int .i64 (idxQ q l)) := by
  refine PSpec.Qar 64 ok110 rfl (by rw [noRefs, noRefs, Qey hc, (Qac _)]; rfl) rfl ?_
  have hfn := Qey (K := K) hc
  have hln := (show (ints (nz l)).length = l.length * 1 by simp [ints])
  simp (disch := first | omega | (simp only [lenW] <;> omega)) only [s110, List.append_nil, wW, wV, simprocAttr]
  refine QaE 100 (fun i : Nat => [(0, sliN l), (1, .fn K [] cap), (7, .int .i64 l.length), (8, .int .i64 i)]) (fun _ => []) (fun i => i <= l.length /\ ∀ (j : Nat) y, j < i -> l[j]? = some y -> q y = false) (fun i => l.length - i) 0 ?_ ⟨Nat.zero_le _, fun j y hj => absurd hj (Nat.not_lt_zero _)⟩ ?_
  · exact ⟨[], rfl, RO.zero, RB.nil, RT.cons (Rn.same (Qac _)) (RT.cons (Rn.same hfn) (RT.cons (Rn.same rfl) (RT.cons (Rn.same rfl) RT.nil)))⟩
  rintro i ⟨hi, hb⟩
  by_cases hlt : i < l.length
  · obtain ⟨x, hx⟩ := Qap hlt
    have hn := hk x (List.mem_of_getElem? hx)
    have hdr := QaJ hx
    have hdl : 1 <= (List.drop (i * 1) (ints (nz l))).length := by rw [List.length_drop, hln]; omega
    cases hq : q x
    · rw [hq] at hn
      simp (disch := first | omega | (simp only [lenW] <;> omega)) only [hlt, hdr, hdl, List.head?_cons, List.append_nil, wW, wV, simprocAttr]
      refine ⟨_, by simpa using hn, ?_⟩
      simp (disch := first | omega | (simp only [lenW] <;> omega)) only [List.append_nil, wW, wV, simprocAttr]
      refine ⟨i + 1, by omega, ⟨by omega, fun j y hj hy => ?_⟩, ?_⟩
      · by_cases e : j = i
        · subst e; rw [hx] at hy; cases hy; exact hq
        · exact hb j y (by omega) hy
      · exact ⟨[], rfl, RO.zero, RB.nil, RT.cons (Rn.same (Qac _)) (RT.cons (Rn.same hfn) (RT.cons (Rn.same rfl) (RT.cons (Rn.same rfl) RT.nil)))⟩
    · rw [hq] at hn
      simp (disch := first | omega | (simp only [lenW] <;> omega)) only [hlt, hdr, hdl, List.head?_cons, List.append_nil, wW, wV, simprocAttr]
      refine ⟨_, by simpa using hn, ?_⟩
      simp (disch := first | omega | (simp only [lenW] <;> omega)) only [List.append_nil, wW, wV, simprocAttr]
      refine ⟨.inr trivial, _, rfl, ?_⟩
      rw [Qno hx hq hb]; rfl
  · simp (disch := first | omega | (simp only [lenW] <;> omega)) only [hlt, List.append_nil, wW, wV, simprocAttr]
    refine ⟨.inr trivial, _, rfl, ?_⟩
    rw [Ql5 fun x hx => by
      obtain ⟨j, hj, hjl⟩ := List.getElem_of_mem hx
      exact hb j x (by omega) (by rw [List.getElem?_eq_getElem hj, hjl])]; rfl
theorem contains36 {K : Nat} {cap : List AV} (q : Nat -> Bool) (l : List Nat) (hl : l.length <= 1000000) (hc : noRefs cap = true) (hk : ∀ x ∈ l, PSpec Tryz.prog K (.int .i64 (x : Int) :: cap) (.bool (q x))) : PSpec Tryz.prog 36 [sliN l, .fn K [] cap] (.bool (l.any q)) := by
 refine PSpec.Qar 64 ok36 rfl (by rw [noRefs, noRefs, Qey hc, Qac]; rfl) rfl ?_
 simp (disch := first | omega | (simp only [lenW] <;> omega)) only [s36, List.append_nil, wW, wV, simprocAttr]
 refine cp (index110 q l hl hc hk) ?_
 have e := @Qnp Nat q l
 cases h : l.any q
 ·rw [h, decide_eq_false_iff_not] at e
  simp (disch := first | omega | (simp only [lenW] <;> omega)) only [e, List.append_nil, wW, wV, simprocAttr]
  exact ⟨.inr trivial, _, rfl, rfl⟩
 ·rw [h, decide_eq_true_eq] at e
  simp (disch := first | omega | (simp only [lenW] <;> omega)) only [e, List.append_nil, wW, wV, simprocAttr]
  exact ⟨.inr trivial, _, rfl, rfl⟩
theorem ge166 (x : Nat) : PSpec Tryz.prog 166 [.int .i64 (x : Int), .fptr [.int .i64 5]] (.bool (decide (5 <= x))) := by
 refine PSpec.Qar 64 ok166 rfl rfl rfl ?_
 have e : decide ((5 : Int) <= (x : Int)) = decide (5 <= x) := decide_eq_decide.2 (by omega)
 simp (disch := first | omega | (simp only [lenW] <;> omega)) only [s166, e, List.append_nil, wW, wV, simprocAttr]
 exact ⟨.inr trivial, _, rfl, rfl⟩
end Go.AM.SO
namespace Go.AM.SR
open Go.Proofs
def s83 : SFn := ⟨52, [.tmp 8],
 (.seq (.region [Zz 4 (.box .dyn (.t 0)) [],
 Zz 5 (.box .dyn (.t 1)) [],
 Zz 8 (.mov (.c (.int .i64 0))) []] [] [0,1,8])
 (.seq (.block 0 (.seq (.region [Zf 11 0 4 [],
 Zl 12 11 [0],
 Zz 13 (.call .pure (.f 135) [(.t 12)]) [1],
 Zz 14 (.un .not (.t 13)) [2],
 Zm 10 14 [3,2]] [] [11,12,13,14])
 (.cond (.t 10)
 (.seq (.region [Zz 8 (.mov (.c (.int .i64 7))) []] [] [2,3,4,5,10])
 .ret)
 (.seq (.region [Zm 16 3 [],
 Zf 17 0 4 [],
 Zl 18 17 [1],
 Zz 19 (.lookup false [.s] (.bool false) false (.t 16) (.t 18)) [0,2],
 Zm 15 19 [3]] [] [10,16,17,18,19])
 (.cond (.t 15)
 (.seq (.region [Zz 8 (.mov (.c (.int .i64 8))) []] [] [2,3,4,5,15])
 .ret)
 .skip)))))
 (.seq (.region [Zm 20 3 [],
 Zf 21 0 4 [],
 Zl 22 21 [1],
 Zy (.mupd false [.s] (.t 20) (.t 22) (.c (.bool true))) [0,2,0,1,2]] [] [8,3,15,20,21,22])
 (.seq (.seq (.region [Zf 23 1 4 [],
 Zw 24 4 23 [0],
 Zz 25 (.call .pure (.f 112) [(.t 24)]) [1],
 Zm 9 25 [2,2,0,1,2]] [] [23,24,25])
 (.seq (.region [Zm 26 9 [],
 Zz 27 (.bin .neq (.t 26) (.c (.int .i64 0))) [0]] [] [26])
 (.cond (.t 27)
 (.seq (.region [Zm 28 9 [],
 Zm 8 28 [0,0]] [] [2,4,5,9,27,28])
 .ret)
 .skip)))
 (.seq (.block 1 (.seq (.region [Zf 30 1 4 [],
 Zw 31 4 30 [0],
 Zz 32 (.call .pure (.f 60) [(.t 31)]) [1],
 Zz 33 (.un .not (.t 32)) [2],
 Zm 29 33 [3,2]] [] [8,9,27,30,31,32,33])
 (.cond (.t 29)
 (.seq (.region [Zz 8 (.mov (.c (.int .i64 6))) []] [] [2,4,5,29])
 .ret)
 (.seq (.region [Zf 35 1 4 [],
 Zf 36 1 35 [0],
 Zl 37 36 [1],
 Zz 38 (.bin .eql (.t 37) (.c (.int .i64 0))) [2],
 Zm 34 38 [3]] [] [29,35,36,37,38])
 (.cond (.t 34)
 (.seq (.region [Zz 8 (.mov (.c (.int .i64 12))) []] [] [2,4,5,34])
 .ret)
 (.seq (.region [Zf 40 1 4 [],
 Zf 41 0 40 [0],
 Zl 42 41 [1],
 Zz 43 (.mkfn 166 [] [(.t 5)]) [],
 Zz 44 (.call .heap (.f 36) [(.t 42), (.t 43)]) [2,3],
 Zm 39 44 [4,4]] [] [5,34,40,41,42,43,44])
 (.cond (.t 39)
 (.seq (.region [Zz 8 (.mov (.c (.int .i64 2))) []] [] [2,4,39])
 .ret)
 (.seq (.region [Zf 46 1 4 [],
 Zf 47 0 46 [0],
 Zl 48 47 [1],
 Zm 49 2 [],
 Zz 50 (.call .pure (.f 167) [(.t 48), (.t 49)]) [2,3],
 Zz 51 (.un .not (.t 50)) [4],
 Zm 45 51 [5,4]] [] [2,4,39,46,47,48,49,50,51])
 (.cond (.t 45)
 (.seq (.region [Zz 8 (.mov (.c (.int .i64 9))) []] [] [45])
 .ret)
 .skip)))))))))
 (.seq (.region [Zz 8 (.mov (.c (.int .i64 0))) []] [] [45])
 .ret))))))⟩
theorem ok83 : okFn Tryz.prog 83 s83 = true := by kernel_rfl
end Go.AM.SR
namespace Go.AM.SO
open Go.Proofs Go.AM.SD Go.AM.SE
theorem Ql6 {A B : List Nat} (hA : A.Pairwise (· < ·)) (hB : B.Pairwise (· < ·)) (h : ∀ x ∈ A, x ∈ B) : mrg (fun a b => a && !b) A B = [] := by
 rw [List.eq_nil_iff_forall_not_mem]
 intro x hx
 obtain ⟨h1, h2⟩ := (Qa8 hA hB).1 hx
 simp at h1
 exact h1.2 (h x h1.1)
theorem QdD {a : Aut} (h : WfA a) : a.al.length <= 5 := QaL 5 a.al (by rw [List.nodup_iff_pairwise_ne]; exact h.al.imp fun h => by omega) h.al5
abbrev nmsB (l : List (List UInt8)) : Blk := .map 0 (mapS yes l)
theorem item83 (nm : List UInt8) (a : Aut) (B : List Nat) (names : List (List UInt8)) (h : WfI a) (hN : PSpec Tryz.prog 135 [.str nm] (.bool true)) (hn : nm ∉ names) (hnl : names.length <= 100) (hB : B.Pairwise (· < ·)) (hBl : B.length <= 1000000) (hs : ∀ x ∈ a.al, x ∈ B) :
  HSpec Tryz.prog 83 [.agg [.str nm, sliN a.al, .int .i64 (a.n : Int), sliN a.ms, egsN a.es], .int .i64 5, sliN B, .map 68 0] (hp [(68, nmsB names)]) (.int .i64 0) (hp [(68, nmsB (names ++ [nm]))]) := by
 have hal := QdD h.wf
 have hel : a.es.length <= 1000000 := Nat.le_trans h.el (by decide)
 have hC := check112 a h.wf hel
 have hI := isCanon60 a h.wf hel h.can
 have hp0 := h.pos
 have hn0 : ¬ (a.n : Int) = 0 := by omega
 have h36 := contains36 (K := 166) (cap := [.fptr [.int .i64 5]]) (fun x => decide (5 <= x)) a.al (by omega) rfl (fun x _ => ge166 x)
 have hany : a.al.any (fun x => decide (5 <= x)) = false := by
  rw [List.any_eq_false]
  intro x hx
  have := h.wf.al5 x hx
  simp; omega
 rw [hany] at h36
 have hsub := subset167 a.al B (by omega) hBl
 rw [Ql6 h.wf.al hB hs] at hsub
 have hsub' : PSpec Tryz.prog 167 [sliN a.al, sliN B] (.bool true) := hsub
 refine HSpec.QnA (m := 69) 100 SR.ok83 rfl rfl rfl ?_
 simp (disch := first | omega | (simp only [lenW] <;> omega)) only [SR.s83, wW, wV, simprocAttr]
 refine cp hN ?_
 simp (disch := first | omega | (simp only [lenW] <;> omega)) only [wW, wV, simprocAttr]
 refine Qev gg hn ?_
 simp (disch := first | omega | (simp only [lenW] <;> omega)) only [wW, wV, simprocAttr]
 refine Qdd gg hn (by omega) ?_
 simp (disch := first | omega | (simp only [lenW] <;> omega)) only [Qfx, wW, wV, simprocAttr]
 refine cp hC ?_
 simp (disch := first | omega | (simp only [lenW] <;> omega)) only [wW, wV, simprocAttr]
 refine cp hI ?_
 simp (disch := first | omega | (simp only [lenW] <;> omega)) only [hn0, wW, wV, simprocAttr]
 refine SU.chc (HSpec.lend (FrzL.cons (FrzTo.same _) (FrzL.cons (FrzTo.fn FrzL.nil (FrzL.cons (FrzTo.ptr (g := 0) (cs := [.int .i64 5]) gg (FrzL.same _)) FrzL.nil)) FrzL.nil)) h36 rfl) ?_
 simp (disch := first | omega | (simp only [lenW] <;> omega)) only [wW, wV, simprocAttr]
 refine cp hsub' ?_
 simp (disch := first | omega | (simp only [lenW] <;> omega)) only [wW, wV, simprocAttr]
 refine ⟨.inr trivial, _, rfl, rfl, ?_⟩
 refine ⟨[(68, .nil)], rfl, au0, ?_, au16⟩
 exact RB.mapB rfl gg (RnM.mapS fun _ _ => Rn.same rfl) RB.nil
theorem item83F {h : Heap} (nm : List UInt8) (a : Aut) (B : List Nat) (names : List (List UInt8)) (hw : WfI a) (hN : PSpec Tryz.prog 135 [.str nm] (.bool true)) (hn : nm ∉ names) (hnl : names.length <= 100) (hB : B.Pairwise (· < ·)) (hBl : B.length <= 1000000) (hs : ∀ x ∈ a.al, x ∈ B) (h68 : h.get 68 = some (nmsB names)) :
  HSpec Tryz.prog 83 [.agg [.str nm, sliN a.al, .int .i64 (a.n : Int), sliN a.ms, egsN a.es], .int .i64 5, sliN B, .map 68 0] h (.int .i64 0) (h.set 68 (nmsB (names ++ [nm]))) := by
 have hm : ∀ (l : List (List UInt8)), ∀ e ∈ mapS yes l, noRef e.1 = true /\ noRef e.2 = true := fun l e he => by
  unfold mapS at he
  obtain ⟨x, _, rfl⟩ := List.mem_map.1 he
  exact ⟨rfl, rfl⟩
 exact HSpec.frameM (item83 nm a B names hw hN hn hnl hB hBl hs) (OnlyD.cons (OnlyD.same (by rw [noRef]; exact SU.QcJ)) (OnlyD.cons (OnlyD.same rfl) (OnlyD.cons (OnlyD.same (Qac _)) (OnlyD.cons (OnlyD.map rfl) OnlyD.nil)))) (OnlyD.same rfl) (hm _) (hm _) h68 rfl
end Go.AM.SO
namespace Go.AM.SO
open Go.Proofs Go.AM.SD Go.AM.SE
def uUp (l : List (Nat × Aut)) : List Nat := l.foldl (fun out x => mrg (fun a b => a || b) out x.2.al) []
theorem Qgv : ∀ {l : List (Nat × Aut)} {out : List Nat}, out.Pairwise (· < ·) -> (∀ x ∈ l, x.2.al.Pairwise (· < ·)) ->
  (l.foldl (fun out x => mrg (fun a b => a || b) out x.2.al) out).Pairwise (· < ·) /\ ∀ e, e ∈ l.foldl (fun out x => mrg (fun a b => a || b) out x.2.al) out ↔ e ∈ out \/ ∃ y ∈ l, e ∈ y.2.al
 | [], out, h, _ => ⟨h, fun e => by simp⟩
 | x :: l, out, h, hl => by
  have hx := hl x (by simp)
  obtain ⟨h1, h2⟩ := Qgv (l := l) (QbL (k := fun a b => a || b) h hx) fun y hy => hl y (by simp [hy])
  refine ⟨h1, fun e => ?_⟩
  rw [List.foldl_cons, h2 e, Qa8 h hx]
  simp only [List.mem_cons, exists_eq_or_imp, Bool.or_eq_true, decide_eq_true_eq]
  constructor
  ·rintro (⟨h3, _⟩ | h3)
   ·rcases h3 with h3 | h3
    ·exact .inl h3
    ·exact .inr (.inl h3)
   ·exact .inr (.inr h3)
  ·rintro (h3 | h3 | h3)
   ·exact .inl ⟨.inl h3, .inl h3⟩
   ·exact .inl ⟨.inr h3, .inr h3⟩
   ·exact .inr h3
theorem Qgc {l : List (Nat × Aut)} (h : ∀ x ∈ l, WfI x.2) : (uUp l).Pairwise (· < ·) := (Qgv (by simp) fun x hx => (h x hx).wf.al).1
theorem Qj9 {l : List (Nat × Aut)} (h : ∀ x ∈ l, WfI x.2) {e : Nat} : e ∈ uUp l ↔ ∃ y ∈ l, e ∈ y.2.al := by
 have := (Qgv (l := l) (out := []) (by simp) fun x hx => (h x hx).wf.al).2 e
 simpa [uUp] using this
theorem Qka {l : List (Nat × Aut)} (h : ∀ x ∈ l, WfI x.2) : (uUp l).length <= 5 := by
 refine QaL 5 _ (by rw [List.nodup_iff_pairwise_ne]; exact (Qgc h).imp fun h => by omega) fun x hx => ?_
 obtain ⟨y, hy, he⟩ := (Qj9 h).1 hx
 exact (h y hy).wf.al5 x he
theorem QmL {l : List (Nat × Aut)} {i : Nat} {x : Nat × Aut} (h : l[i]? = some x) : uUp (l.take (i + 1)) = mrg (fun a b => a || b) (uUp (l.take i)) x.2.al := by
 unfold uUp
 rw [take_succ' h, List.foldl_append]; rfl
def nmsI (ch : UInt8) (l : List (Nat × Aut)) : List (List UInt8) := l.map fun x => [ch, UInt8.ofNat (48 + x.1)]
theorem QiO {ch : UInt8} {l : List (Nat × Aut)} {i : Nat} {x : Nat × Aut} (h : l[i]? = some x) : nmsI ch (l.take (i + 1)) = nmsI ch (l.take i) ++ [[ch, UInt8.ofNat (48 + x.1)]] := by
 unfold nmsI
 rw [take_succ' h, List.map_append]; rfl
theorem Qnq {a b : Nat} (ha : a < 10) (hb : b < 10) (h : UInt8.ofNat (48 + a) = UInt8.ofNat (48 + b)) : a = b := by
 have := congrArg UInt8.toNat h
 simp at this
 omega
theorem QdE {l : List (Nat × Aut)} (h : l.map (·.1) = List.range l.length) {i : Nat} {x : Nat × Aut} (hx : l[i]? = some x) : x.1 = i /\ i < l.length := by
 have hi : i < l.length := by
  rcases Nat.lt_or_ge i l.length with h | h
  ·exact h
  ·rw [List.getElem?_eq_none h] at hx; cases hx
 have h1 : (l.map (·.1))[i]? = some x.1 := by rw [List.getElem?_map, hx]; rfl
 rw [h, List.getElem?_range hi] at h1
 cases h1
 exact ⟨rfl, hi⟩
theorem Qkb {ch : UInt8} {l : List (Nat × Aut)} (h : l.map (·.1) = List.range l.length) (h3 : l.length <= 9) {i : Nat} {x : Nat × Aut} (hx : l[i]? = some x) : [ch, UInt8.ofNat (48 + x.1)] ∉ nmsI ch (l.take i) := by
 intro hm
 obtain ⟨y, hy, he⟩ := List.mem_map.1 hm
 obtain ⟨j, hj, hjl⟩ := List.getElem_of_mem hy
 rw [List.length_take] at hj
 rw [List.getElem_take] at hjl
 obtain ⟨e1, e2⟩ := QdE h hx
 obtain ⟨e3, e4⟩ := QdE h (i := j) (x := y) (by rw [<- hjl]; exact List.getElem?_eq_getElem (by omega))
 have := Qnq (a := y.1) (b := x.1) (by omega) (by omega) (by simpa using he)
 omega
theorem Ql7 {a b : UInt8} (hab : a ≠ b) {s : UInt8} {l : List (Nat × Aut)} : [a, s] ∉ nmsI b l := by
 intro hm
 obtain ⟨y, hy, he⟩ := List.mem_map.1 hm
 simp at he
 exact hab he.1.symm
theorem QiH {i : Nat} (h : i < 3) : PSpec Tryz.prog 135 [.str [99, UInt8.ofNat (48 + i)]] (.bool true) := by
 have : i = 0 \/ i = 1 \/ i = 2 := by omega
 rcases this with rfl | rfl | rfl
 ·exact SP.Qm9
 ·exact SP.Qna
 ·exact SP.Qnb
theorem Qoc {i : Nat} (h : i < 2) : PSpec Tryz.prog 135 [.str [114, UInt8.ofNat (48 + i)]] (.bool true) := by
 have : i = 0 \/ i = 1 := by omega
 rcases this with rfl | rfl
 ·exact SP.Qnc
 ·exact SP.Qnd
theorem QeC {m : Nat} {π : Nat -> Option Src} {h : Heap} : RnM m π h (mapS yes []) [] := trivial
theorem QbN (c : Cel) : noRefs [evsV c.ev, its 99 c.cs, its 114 c.rs, exs c.xs, cos c.ks] = true := by
 have := SU.QbH c
 rwa [celV, noRef] at this
theorem check21 (c : Cel) (h : WfCel c) : PSpec Tryz.prog 21 [celV c] (.int .i64 0) := by
  have hnr := QbN c
  refine PSpec.Qar 64 ok21 rfl (by rw [noRefs, SU.QbH]; rfl) rfl ?_
  have hE := check82 c.ev h.ev
  have h0 := h.c0
  have h3 := h.c3
  have h2 := h.r2
  have g1 : ¬ (c.cs.length : Int) = 0 := by omega
  have g2 : ¬ (8 : Int) < (c.cs.length : Int) := by omega
  have g3 : ¬ (12 : Int) < (c.cs.length : Int) + (c.rs.length : Int) := by omega
  have hdL := conds85 c h
  have hdC := conds32 c h
  simp (disch := first | omega | (simp only [lenW] <;> omega)) only [s21, wW, wV, simprocAttr]
  refine cp hE ?_
  simp (disch := first | omega | (simp only [lenW] <;> omega)) only [g1, g2, g3, wW, wV, simprocAttr]
  refine Qav 140 (fun i : Nat => [(1, .ptr 50 0 0), (5, .map 68 0), (6, .sl 76 0 0 i 1), (7, .nilsl), (41, .int .i64 5), (42, .int .i64 i)]) (fun i => [(50, .cells 0 [evsV c.ev, its 99 c.cs, its 114 c.rs, exs c.xs, cos c.ks]), (68, nmsB []), (76, .cells 0 (ints (nz (List.range i))))]) (fun i => i <= 5) (fun i => 5 - i) 0 1 180
    (fun _ : Unit => [(1, .ptr 50 0 0), (5, .map 68 0), (6, sliN (List.range 5)), (7, sliN [])]) (fun _ => [(50, .cells 0 [evsV c.ev, its 99 c.cs, its 114 c.rs, exs c.xs, cos c.ks]), (68, nmsB [])]) (fun _ => True) ?_ (Nat.zero_le _) ?_ ?_
  · refine ⟨[(50, .blk 64 0), (68, .blk 90 0), (76, .nil)], rfl, au0, ?_, au16⟩
    exact RB.cells rfl rfl gg (RnL.same hnr) (RB.map rfl rfl gg QeC (RB.newnil rfl rfl RB.nil))
  · rintro i hi
    by_cases hlt : i < 5
    · have hlt2 : (i : Int) < 5 := by omega
      have hrl : (ints (nz (List.range i))).length = i := by simp [ints]
      simp (disch := first | omega | (simp only [lenW] <;> omega)) only [hlt2, List.length_range, hrl, wW, wV, simprocAttr]
      refine ⟨i + 1, by omega, by omega, ?_⟩
      rw [List.range_succ, QaF, Qax]
      refine ⟨[(50, .blk 50 0), (68, .blk 68 0), (76, .blk 76 1)], rfl, au0, ?_, au16⟩
      exact RB.cells rfl rfl gg (RnL.same hnr) (RB.map rfl rfl gg QeC (RB.cells rfl rfl gg (RnL.same (SU.Qa0 (Qaa _) rfl)) RB.nil))
    · have e : i = 5 := by omega
      subst e
      simp (disch := first | omega | (simp only [lenW] <;> omega)) only [wW, wV, simprocAttr]
      refine ⟨(), [(50, .blk 50 0), (68, .blk 68 0)], rfl, RO.zero, ?_, ?_⟩
      · exact RB.cells rfl rfl gg (RnL.same hnr) (RB.map rfl rfl gg QeC RB.nil)
      · exact RT.cons (Rn.x2 rfl rfl) (RT.cons (Rn.x3 rfl rfl) (RT.cons (Rn.fz (b := 76) (g := 0) gg rfl rfl rfl (RnL.same rfl)) (RT.cons Rn.nilK RT.nil)))
  rintro _ _
  simp (disch := first | omega | (simp only [lenW] <;> omega)) only [wW, wV, simprocAttr]
  refine Qav 240 (fun i : Nat => [(1, .ptr 50 0 0), (5, .map 68 0), (6, sliN (List.range 5)), (7, sliN (uUp (c.cs.take i))), (51, its 99 c.cs), (52, .int .i64 c.cs.length), (53, .int .i64 i)]) (fun i => [(50, .cells 0 [evsV c.ev, its 99 c.cs, its 114 c.rs, exs c.xs, cos c.ks]), (68, nmsB (nmsI 99 (c.cs.take i)))]) (fun i => i <= c.cs.length) (fun i => c.cs.length - i) 0 3 280
    (fun _ : Unit => [(1, .ptr 50 0 0), (5, .map 68 0), (7, sliN (uUp c.cs))]) (fun _ => [(50, .cells 0 [evsV c.ev, its 99 c.cs, its 114 c.rs, exs c.xs, cos c.ks]), (68, nmsB (nmsI 99 c.cs))]) (fun _ => True) ?_ (Nat.zero_le _) ?_ ?_
  · refine ⟨[(50, .blk 50 0), (68, .blk 68 0)], rfl, au0, ?_, au16⟩
    exact RB.cells rfl rfl gg (RnL.same hnr) (RB.map rfl rfl gg QeC RB.nil)
  · rintro i hi
    by_cases hlt : i < c.cs.length
    · obtain ⟨x, hx⟩ := Qap hlt
      have hxm := List.mem_of_getElem? hx
      have hdr := SU.Qb5 (ch := 99) hx
      have hdl : 5 <= ((c.cs.flatMap (itC 99)).drop (i * 5)).length := by rw [hdr]; simp
      have hwi := h.ca x hxm
      have hfa := QdE h.cn hx
      have hnl : (nmsI 99 (c.cs.take i)).length <= 100 := by simp [nmsI]; omega
      have hN := QiH (i := x.1) (by omega)
      have hnew := Qkb (ch := 99) h.cn (by omega) hx
      have hulen : (uUp (c.cs.take i)).length <= 1000000 := by have := Qka (l := c.cs.take i) fun y hy => h.ca y (List.mem_of_mem_take hy); omega
      have hU := union84 (uUp (c.cs.take i)) x.2.al hulen (by have := QdD hwi.wf; omega)
      rw [<- QmL hx] at hU
      have hns := QiO (ch := 99) hx
      simp (disch := first | omega | (simp only [lenW] <;> omega)) only [hlt, hdr, hdl, wW, wV, simprocAttr]
      refine SU.chc (item83F _ _ _ _ hwi hN hnew hnl List.pairwise_lt_range (by decide) (fun e he => List.mem_range.2 (hwi.wf.al5 e he)) gg) ?_
      simp (disch := first | omega | (simp only [lenW] <;> omega)) only [wW, wV, simprocAttr]
      refine cp hU ?_
      simp (disch := first | omega | (simp only [lenW] <;> omega)) only [wW, wV, simprocAttr]
      refine ⟨i + 1, by omega, by omega, ?_⟩
      rw [hns]
      refine ⟨[(50, .blk 50 0), (68, .blk 68 0)], rfl, au0, ?_, au16⟩
      exact RB.cells rfl rfl gg (RnL.same hnr) (RB.map rfl rfl gg (RnM.mapS fun _ _ => Rn.same rfl) RB.nil)
    · have e : i = c.cs.length := by omega
      subst e
      simp (disch := first | omega | (simp only [lenW] <;> omega)) only [hlt, List.take_length, wW, wV, simprocAttr]
      refine ⟨(), ?_⟩
      refine ⟨[(50, .blk 50 0), (68, .blk 68 0)], rfl, au0, ?_, au16⟩
      exact RB.cells rfl rfl gg (RnL.same hnr) (RB.map rfl rfl gg (RnM.mapS fun _ _ => Rn.same rfl) RB.nil)
  rintro _ _
  simp (disch := first | omega | (simp only [lenW] <;> omega)) only [wW, wV, simprocAttr]
  refine Qav 340 (fun i : Nat => [(1, .ptr 50 0 0), (5, .map 68 0), (7, sliN (uUp c.cs)), (74, its 114 c.rs), (75, .int .i64 c.rs.length), (76, .int .i64 i)]) (fun i => [(50, .cells 0 [evsV c.ev, its 99 c.cs, its 114 c.rs, exs c.xs, cos c.ks]), (68, nmsB (nmsI 99 c.cs ++ nmsI 114 (c.rs.take i)))]) (fun i => i <= c.rs.length) (fun i => c.rs.length - i) 0 5 380
    (fun _ : Unit => [(1, .ptr 50 0 0)]) (fun _ => [(50, .cells 0 [evsV c.ev, its 99 c.cs, its 114 c.rs, exs c.xs, cos c.ks])]) (fun _ => True) ?_ (Nat.zero_le _) ?_ ?_
  · rw [show nmsI 99 c.cs ++ nmsI 114 (c.rs.take 0) = nmsI 99 c.cs by simp [nmsI]]
    refine ⟨[(50, .blk 50 0), (68, .blk 68 0)], rfl, au0, ?_, au16⟩
    exact RB.cells rfl rfl gg (RnL.same hnr) (RB.map rfl rfl gg (RnM.mapS fun _ _ => Rn.same rfl) RB.nil)
  · rintro i hi
    by_cases hlt : i < c.rs.length
    · obtain ⟨x, hx⟩ := Qap hlt
      have hxm := List.mem_of_getElem? hx
      have hdr := SU.Qb5 (ch := 114) hx
      have hdl : 5 <= ((c.rs.flatMap (itC 114)).drop (i * 5)).length := by rw [hdr]; simp
      have hwi := h.ra x hxm
      have hfa := QdE h.rn hx
      have hnl : (nmsI 99 c.cs ++ nmsI 114 (c.rs.take i)).length <= 100 := by simp [nmsI]; omega
      have hN := Qoc (i := x.1) (by omega)
      have hnew : [114, UInt8.ofNat (48 + x.1)] ∉ nmsI 99 c.cs ++ nmsI 114 (c.rs.take i) := by
        intro hm
        rcases List.mem_append.1 hm with hm | hm
        · exact Ql7 (by decide) hm
        · exact Qkb (ch := 114) h.rn (by omega) hx hm
      have hulen : (uUp c.cs).length <= 1000000 := by have := Qka (l := c.cs) h.ca; omega
      have hns := QiO (ch := 114) hx
      simp (disch := first | omega | (simp only [lenW] <;> omega)) only [hlt, hdr, hdl, wW, wV, simprocAttr]
      refine SU.chc (item83F _ _ _ _ hwi hN hnew hnl (Qgc h.ca) hulen (fun e he => (Qj9 h.ca).2 (h.rsub x hxm e he)) gg) ?_
      simp (disch := first | omega | (simp only [lenW] <;> omega)) only [wW, wV, simprocAttr]
      refine ⟨i + 1, by omega, by omega, ?_⟩
      rw [hns, <- List.append_assoc]
      refine ⟨[(50, .blk 50 0), (68, .blk 68 0)], rfl, au0, ?_, au16⟩
      exact RB.cells rfl rfl gg (RnL.same hnr) (RB.map rfl rfl gg (RnM.mapS fun _ _ => Rn.same rfl) RB.nil)
    · simp (disch := first | omega | (simp only [lenW] <;> omega)) only [hlt, wW, wV, simprocAttr]
      refine ⟨(), ?_⟩
      refine ⟨[(50, .blk 50 0)], rfl, au0, ?_, au16⟩
      exact RB.cells rfl rfl gg (RnL.same hnr) RB.nil
  rintro _ _
  simp (disch := first | omega | (simp only [lenW] <;> omega)) only [wW, wV, simprocAttr]
  refine cp hdL ?_
  simp (disch := first | omega | (simp only [lenW] <;> omega)) only [wW, wV, simprocAttr]
  refine cp hdC ?_
  simp (disch := first | omega | (simp only [lenW] <;> omega)) only [wW, wV, simprocAttr]
  exact ⟨.inr trivial, _, rfl, rfl⟩
end Go.AM.SO
namespace Go.AM.SL
open Go.Proofs
def s6 : SFn := ⟨68, [.tmp 4],
 (.seq (.region [Zz 2 (.box .dyn (.t 0)) [],
 Zz 3 (.box .dyn (.t 1)) [],
 Zz 4 (.mov (.c (.bool false))) []] [] [0,1,4])
 (.seq (.seq (.region [Zz 11 (.call .pure (.f 15) []) [],
 Zz 12 (.un .not (.t 11)) [0],
 Zm 13 12 [1,0],
 Zx 14 (.load (some 152) (.t 2)) [2] 13 false,
 Zx 15 (.call .pure (.f 25) [(.t 14)]) [3,2,2] 13 false,
 Zx 16 (.un .not (.t 15)) [4,2] 13 false,
 Zz 17 (.pick (.t 13) (.c (.bool true)) (.t 16)) [2,5]] [] [11,12,13,14,15,16])
 (.cond (.t 17)
 (.seq (.region [Zz 18 (.call .pure (.f 15) []) [],
 Zm 4 18 [0,0,0]] [] [2,3,17,18])
 .ret)
 .skip))
 (.seq (.region [Zw 19 152 2 [],
 Zz 20 (.call .pure (.f 26) [(.t 19)]) [0],
 Zz 5 (.alloc .dyn (.agg [.nilsl, .nilsl, .nilsl, .nilsl, .nilsl])) [],
 Zs 5 5 20 [2,1,1,0,1,2]] [] [4,2,17,19,20])
 (.seq (.region [Zw 22 5 5 [],
 Zl 23 3 [],
 Zz 24 (.call .pure (.f 35) [(.t 22), (.t 23)]) [0,1],
 Zm 21 24 [2],
 Zz 25 (.extract 0 (.t 21)) [3],
 Zz 26 (.extract 1 (.t 21)) [3],
 Zm 6 25 (Za [4,2] 5),
 Zm 7 26 (Za [5,6] 7)] [] [22,23,24,21,25,26])
 (.seq (.seq (.region [Zl 27 3 [],
 Zz 28 (.bin .lss (.t 27) (.c (.int .i64 0))) [0],
 Zm 29 28 [1],
 Zx 30 (.load none (.t 3)) [2] 29 false,
 Zx 31 (.faddr 2 (.t 5)) [2] 29 false,
 Zx 32 (.load none (.t 31)) [4,2] 29 false,
 Zx 33 (.len 1 (.t 32)) [5,2] 29 false,
 Zx 34 (.bin .geq (.t 30) (.t 33)) [3,6,2] 29 false,
 Zz 35 (.pick (.t 29) (.c (.bool true)) (.t 34)) [2,7]] [] [27,28,29,30,31,32,33,34])
 (.cond (.t 35)
 (.seq (.region [Zm 36 7 [],
 Zz 37 (.bin .eql (.t 36) (.c (.int .i64 10))) [0],
 Zm 38 37 [1],
 Zx 39 (.mov (.t 6)) [2] 38 true,
 Zx 40 (.len 1 (.t 39)) [3,2] 38 true,
 Zx 41 (.bin .eql (.t 40) (.c (.int .i64 0))) [4,2] 38 true,
 Zz 42 (.pick (.t 38) (.t 41) (.c (.bool false))) [2,5],
 Zm 4 42 (Za [6,2] 7)] [] [3,5,6,7,35,36,37,38,39,40,41,42])
 .ret)
 .skip))
 (.seq (.region [Zz 8 (.mov (.c .nilsl)) []] [] [4,35])
 (.seq (.seq (.region [Zf 43 1 5 [],
 Zl 44 43 [0],
 Zv 45 44 [1],
 Zz 46 (.mov (.c (.int .i64 0))) []] [] [43])
 (.block 0 (.loop (.seq (.region [Zb 47 .lss 46 45 []] [] [])
 (.seq (.cond (.t 47)
 .skip
 (.exit 0))
 (.seq (.block 1 (.seq (.region [Zm 48 46 [],
 Zi 49 5 44 46 [],
 Zw 50 5 49 [1],
 Zz 10 (.alloc .dyn (.agg [(.str []), .nilsl, (.int .i64 0), .nilsl, .nilsl])) [],
 Zm 9 48 [0,0,1,2,3],
 Zs 5 10 50 (Za [3,2,4] 5)] [] [47,48,49,50])
 (.seq (.region [Zf 51 1 10 [],
 Zf 52 0 51 [0],
 Zl 53 52 [1],
 Zz 54 (.mkfn 37 [] [(.t 5), (.t 3)]) [],
 Zz 55 (.call .heap (.f 36) [(.t 53), (.t 54)]) [2,3]] [] [10,51,52,53,54])
 (.cond (.t 55)
 (.region [Zm 56 8 [],
 Zm 57 9 [],
 Zz 58 (.bslice false .dyn 1 1 [(.int .i64 0)] [(0,1, (.t 57))]) [1],
 Zz 59 (.append .dyn 1 8 (.t 56) (.t 58)) [0,2],
 Zm 8 59 [3,3,0,1,2,3]] [] [9,55,56,57,58,59])
 .skip))))
 (.region [Zz 60 (.bin .add (.t 46) (.c (.int .i64 1))) [],
 Zm 46 60 [0]] [] [9,55,60])))))))
 (.seq (.region [Zm 61 7 [],
 Zz 62 (.bin .eql (.t 61) (.c (.int .i64 0))) [0],
 Zm 63 62 [1],
 Zx 64 (.mov (.t 6)) [2] 63 true,
 Zx 65 (.mov (.t 8)) [2] 63 true,
 Zx 66 (.call .pure (.f 31) [(.t 64), (.t 65)]) [3,4,2,2] 63 true,
 Zz 67 (.pick (.t 63) (.t 66) (.c (.bool false))) [2,5],
 Zm 4 67 (Za [6,5] 7)] [] [3,5,6,7,8,44,45,46,66,64,65,61,62,63,67])
 .ret))))))))⟩
theorem ok6 : okFn Tryz.prog 6 s6 = true := by kernel_rfl
end Go.AM.SL
namespace Go.AM.SO
open Go.Proofs Go.AM.SD Go.AM.SE
theorem u8_wf {n : Int} (h : (Lit.int .u8 n).wf = true) : 0 <= n /\ n < 256 := by
 simp [Lit.wf, IntKind.min, IntKind.max, IntKind.signed, IntKind.bits] at h
 omega
theorem i8_wf {n : Int} (h : (Lit.int .i8 n).wf = true) : -128 <= n /\ n < 128 := by
 simp [Lit.wf, IntKind.min, IntKind.max, IntKind.signed, IntKind.bits] at h
 omega
theorem Qod {n : Int} (h : (Lit.int .i64 n).wf = true) : -9223372036854775808 <= n /\ n <= 9223372036854775807 := by
 simp [Lit.wf, IntKind.min, IntKind.max, IntKind.signed, IntKind.bits] at h
 omega
def u8O : Ty -> Bool
 | .int k => k == .u8
 | .arr _ t => u8O t
 | .st t => u8O t
 | .unit => true
 | .pair a b => u8O a && u8O b
 | _ => false
theorem Qd0 {a b : List Nat} : u8s (a ++ b) = u8s a ++ u8s b := by simp [u8s]
theorem Qbu : ∀ (t : Ty), u8O t = true -> ∀ (d : t.D), t.wf d -> ∃ l : List Nat, l.length = t.sz /\ (∀ x ∈ l, x < 256) /\ t.cells d = u8s l
 | .int k, h, d, hw => by
  have : k = .u8 := by simpa [u8O] using h
  subst this
  have := u8_wf hw
  refine ⟨[Int.toNat d], rfl, by simp; omega, ?_⟩
  show [AV.int .u8 d] = [AV.int .u8 ((Int.toNat d : Nat) : Int)]
  rw [Int.toNat_of_nonneg this.1]
 | .bool, h, _, _ => by cases h
 | .str, h, _, _ => by cases h
 | .sl _, h, _, _ => by cases h
 | .st t, h, d, hw => Qbu t h d hw
 | .unit, _, _, _ => ⟨[], rfl, by simp, rfl⟩
 | .pair a b, h, d, hw => by
  simp only [u8O, Bool.and_eq_true] at h
  obtain ⟨l, h1, h2, h3⟩ := Qbu a h.1 d.1 hw.1
  obtain ⟨m, g1, g2, g3⟩ := Qbu b h.2 d.2 hw.2
  refine ⟨l ++ m, by rw [List.length_append, h1, g1]; rfl, fun x hx => (List.mem_append.1 hx).elim (h2 x) (g2 x), ?_⟩
  show a.cells d.1 ++ b.cells d.2 = _
  rw [h3, g3, Qd0]
 | .arr n t, h, d, hw => by
  obtain ⟨hl, hx⟩ := hw
  have key : ∀ l : List t.D, (∀ x ∈ l, t.wf x) -> ∃ r : List Nat, r.length = l.length * t.sz /\ (∀ x ∈ r, x < 256) /\ l.flatMap t.cells = u8s r := by
   intro l
   induction l with
   | nil => intro _; exact ⟨[], by simp, by simp, rfl⟩
   | cons a l ih =>
    intro hl
    obtain ⟨r, g1, g2, g3⟩ := ih fun y hy => hl y (by simp [hy])
    obtain ⟨m, h1, h2, h3⟩ := Qbu t h a (hl a (by simp))
    refine ⟨m ++ r, by rw [List.length_append, h1, g1, List.length_cons, Nat.succ_mul]; omega, fun x hx => (List.mem_append.1 hx).elim (h2 x) (g2 x), ?_⟩
    rw [List.flatMap_cons, g3, h3, Qd0]
  obtain ⟨r, g1, g2, g3⟩ := key d hx
  refine ⟨r, by rw [g1]; show List.length d * t.sz = n * t.sz; rw [hl], g2, g3⟩
abbrev tyTo : Ty := .arr 5 (.arr 5 (.int .u8))
abbrev tyGr : Ty := .st (.pair (.int .u8) (.pair (.int .u8) (.pair tyTo .unit)))
abbrev tyPln : Ty := .st (.pair (.arr 5 (.int .u8)) (.pair (.int .u8) (.pair (.arr 3 (.int .u8)) (.pair (.arr 3 tyGr) (.pair (.int .u8) (.pair (.arr 2 (.int .u8)) (.pair (.arr 2 tyGr)
 (.pair (.sl (.arr 4 (.int .u8))) (.pair (.arr 3 (.int .i8)) (.pair (.int .i8) .unit))))))))))
theorem Qoe {d : tyPln.D} (h : tyPln.wf d) : ∃ p : Pln, POk p /\ p.xn <= 9223372036854775807 /\ tyPln.val d = plnV p := by
 obtain ⟨a, b, c, g, e, f, k, x, y, z, u⟩ := d
 obtain ⟨h1, h2, h3, h4, h5, h6, h7, h8, h9, h10, _⟩ := h
 dsimp only at h1 h2 h3 h4 h5 h6 h7 h8 h9 h10
 obtain ⟨l1, a1, b1, c1⟩ := Qbu (.arr 5 (.int .u8)) rfl _ h1
 obtain ⟨l2, a2, b2, c2⟩ := Qbu (.int .u8) rfl _ h2
 obtain ⟨l3, a3, b3, c3⟩ := Qbu (.arr 3 (.int .u8)) rfl _ h3
 obtain ⟨l4, a4, b4, c4⟩ := Qbu (.arr 3 tyGr) rfl _ h4
 obtain ⟨l5, a5, b5, c5⟩ := Qbu (.int .u8) rfl _ h5
 obtain ⟨l6, a6, b6, c6⟩ := Qbu (.arr 2 (.int .u8)) rfl _ h6
 obtain ⟨l7, a7, b7, c7⟩ := Qbu (.arr 2 tyGr) rfl _ h7
 obtain ⟨h80, h8⟩ := h8
 obtain ⟨l8, a8, b8, c8⟩ := Qbu (.arr (List.length x) (.arr 4 (.int .u8))) rfl x ⟨rfl, h8⟩
 obtain ⟨hy, hyw⟩ := h9
 obtain ⟨y0, y1, y2, rfl⟩ : ∃ y0 y1 y2, y = [y0, y1, y2] := by
  match y, hy with
  | [y0, y1, y2], _ => exact ⟨y0, y1, y2, rfl⟩
 have w0 := i8_wf (hyw y0 (by simp))
 have w1 := i8_wf (hyw y1 (by simp))
 have w2 := i8_wf (hyw y2 (by simp))
 have wz := i8_wf h10
 refine ⟨⟨l1 ++ l2 ++ l3 ++ l4 ++ l5 ++ l6 ++ l7, l8, List.length x, y0, y1, y2, z⟩, ⟨?_, ?_, a8, b8, w0, w1, w2, wz⟩, h80, ?_⟩
 ·simp only [List.length_append, a1, a2, a3, a4, a5, a6, a7]; rfl
 ·intro v hv
  simp only [List.mem_append] at hv
  rcases hv with (((((hv | hv) | hv) | hv) | hv) | hv) | hv
  ·exact b1 v hv
  ·exact b2 v hv
  ·exact b3 v hv
  ·exact b4 v hv
  ·exact b5 v hv
  ·exact b6 v hv
  ·exact b7 v hv
 ·show AV.agg (tyPln.cells _) = _
  congr 1
  show (Ty.arr 5 (.int .u8)).cells a ++ ((Ty.int .u8).cells b ++ ((Ty.arr 3 (.int .u8)).cells c ++ ((Ty.arr 3 tyGr).cells g ++ ((Ty.int .u8).cells e ++ ((Ty.arr 2 (.int .u8)).cells f ++ ((Ty.arr 2 tyGr).cells k ++
   ([.fsl ((Ty.arr (List.length x) (.arr 4 (.int .u8))).cells x) (List.length x) 4] ++ ((Ty.arr 3 (.int .i8)).cells [y0, y1, y2] ++ ((Ty.int .i8).cells z ++ []))))))))) = _
  rw [c1, c2, c3, c4, c5, c6, c7, c8]
  simp only [plnC, Qd0, List.append_assoc]
  rfl
end Go.AM.SO
namespace Go.AM.SO
open Go.Proofs Go.AM.SD Go.AM.SE
def tchN (q : Nat × Aut -> Bool) (l : List (Nat × Aut)) : Nat -> List Nat
 | 0 => []
 | i + 1 => match l[i]? with
  | some x => if q x then tchN q l i ++ [i] else tchN q l i
  | none => tchN q l i
theorem Qhs {q : Nat × Aut -> Bool} {l : List (Nat × Aut)} {i : Nat} {x : Nat × Aut} (h : l[i]? = some x) : tchN q l (i + 1) = if q x then tchN q l i ++ [i] else tchN q l i := by
 rw [tchN, h]
theorem Qd1 {q : Nat × Aut -> Bool} {l : List (Nat × Aut)} : ∀ {i : Nat}, (tchN q l i).length <= i
 | 0 => Nat.le_refl _
 | i + 1 => by
  have := @Qd1 q l i
  rw [tchN]
  split
  ·split
   ·simp; omega
   ·omega
  ·omega
theorem Qd2 {q r : Nat × Aut -> Bool} {l : List (Nat × Aut)} (h : ∀ x ∈ l, q x = r x) : ∀ {i : Nat}, tchN q l i = tchN r l i
 | 0 => rfl
 | i + 1 => by
  rw [tchN, tchN]
  split
  ·rename_i x hx
   rw [h x (List.mem_of_getElem? hx), Qd2 h]
  ·exact Qd2 h
def qI (y : List Nat) (x : Nat × Aut) : Bool := decide (0 < (mrg (fun a b => a && b) x.2.al y).length)
def qA (y : List Nat) (x : Nat × Aut) : Bool := x.2.al.any fun e => decide (e ∈ y)
theorem qI_qA {y : List Nat} {x : Nat × Aut} (hx : x.2.al.Pairwise (· < ·)) (hy : y.Pairwise (· < ·)) : qI y x = qA y x := by
 unfold qI qA
 rw [Bool.eq_iff_iff, decide_eq_true_eq, List.any_eq_true]
 constructor
 ·intro h
  obtain ⟨e, he⟩ := List.exists_mem_of_length_pos h
  obtain ⟨h1, _⟩ := (Qa8 hx hy).1 he
  simp at h1
  exact ⟨e, h1.1, by simpa using h1.2⟩
 ·rintro ⟨e, h1, h2⟩
  have h2 : e ∈ y := by simpa using h2
  exact List.length_pos_of_mem ((Qa8 hx hy (k := fun a b => a && b) (x := e)).2 ⟨by simp [h1, h2], .inl h1⟩)
theorem touchedOut (c : Cel) (h : WfCel c) (r : Int) (hr : r < 0 \/ (c.rs.length : Int) <= r) (hrl : -9223372036854775808 <= r /\ r <= 9223372036854775807) : PSpec Tryz.prog 35 [celV c, .int .i64 r] (.tup [sliN [], .int .i64 10]) := by
  have hnr := QbN c
  refine PSpec.of_rn 64 ok35 rfl (by rw [noRefs, SU.QbH]; rfl) rfl ?_
  have hC := check21 c h
  simp (disch := first | omega | (simp only [lenW] <;> omega)) only [s35, wW, wV, simprocAttr]
  refine cp hC ?_
  by_cases h0 : r < 0
  · simp (disch := first | omega | (simp only [lenW] <;> omega)) only [h0, wW, wV, simprocAttr]
    refine ⟨.inr trivial, _, rfl, ?_⟩
    exact Rn.tup (RnL.cons Rn.nilK (RnL.cons (Rn.same rfl) RnL.nil))
  · have h1 : (c.rs.length : Int) <= r := hr.resolve_left h0
    simp (disch := first | omega | (simp only [lenW] <;> omega)) only [h0, h1, wW, wV, simprocAttr]
    refine ⟨.inr trivial, _, rfl, ?_⟩
    exact Rn.tup (RnL.cons Rn.nilK (RnL.cons (Rn.same rfl) RnL.nil))
theorem touchedIn (c : Cel) (h : WfCel c) (r : Nat) (y : Nat × Aut) (hy : c.rs[r]? = some y) : PSpec Tryz.prog 35 [celV c, .int .i64 (r : Int)] (.tup [sliN (tchN (qI y.2.al) c.cs c.cs.length), .int .i64 0]) := by
  have hnr := QbN c
  refine PSpec.of_rn 64 ok35 rfl (by rw [noRefs, SU.QbH]; rfl) (by simp only [noRef, noRefs, Qaa]; rfl) ?_
  have hC := check21 c h
  have hym := List.mem_of_getElem? hy
  have hwy := h.ra y hym
  have hfy := QdE h.rn hy
  have h2 := h.r2
  have h3 := h.c3
  have h0 : ¬ (r : Int) < 0 := by omega
  have h1 : ¬ (c.rs.length : Int) <= (r : Int) := by omega
  have hdry := SU.Qb5 (ch := 114) hy
  have hdly : 5 <= ((c.rs.flatMap (itC 114)).drop (r * 5)).length := by rw [hdry]; simp
  have hyl := QdD hwy.wf
  simp (disch := first | omega | (simp only [lenW] <;> omega)) only [s35, wW, wV, simprocAttr]
  refine cp hC ?_
  simp (disch := first | omega | (simp only [lenW] <;> omega)) only [h0, h1, wW, wV, simprocAttr]
  refine Qav 140 (fun i : Nat => [(1, .int .i64 (r : Int)), (2, .ptr 50 0 0), (7, .sl 76 0 0 (tchN (qI y.2.al) c.cs i).length 1), (25, its 99 c.cs), (26, .int .i64 c.cs.length), (27, .int .i64 i)]) (fun i => [(50, .cells 0 [evsV c.ev, its 99 c.cs, its 114 c.rs, exs c.xs, cos c.ks]), (76, .cells 0 (ints (nz (tchN (qI y.2.al) c.cs i))))]) (fun i => i <= c.cs.length) (fun i => c.cs.length - i) 0 0 200
    (fun _ : Unit => [(7, sliN (tchN (qI y.2.al) c.cs c.cs.length))]) (fun _ => []) (fun _ => True) ?_ (Nat.zero_le _) ?_ ?_
  · refine ⟨[(50, .blk 64 0), (76, .nil)], rfl, au0, ?_, au16⟩
    exact RB.cells rfl rfl gg (RnL.same hnr) (RB.newnil rfl rfl RB.nil)
  · rintro i hi
    have htl := @Qd1 (qI y.2.al) c.cs i
    by_cases hlt : i < c.cs.length
    · obtain ⟨x, hx⟩ := Qap hlt
      have hxm := List.mem_of_getElem? hx
      have hwx := h.ca x hxm
      have hdr := SU.Qb5 (ch := 99) hx
      have hdl : 5 <= ((c.cs.flatMap (itC 99)).drop (i * 5)).length := by rw [hdr]; simp
      have hI := inter109 x.2.al y.2.al (by have := QdD hwx.wf; omega) (by omega)
      have hsuc := Qhs (q := qI y.2.al) hx
      have hrr : r < c.rs.length := hfy.2
      by_cases hq : 0 < (mrg (fun a b => a && b) x.2.al y.2.al).length
      · have e : qI y.2.al x = true := by unfold qI; simp [hq]
        rw [if_pos e] at hsuc
        generalize mrg (fun a b => a && b) x.2.al y.2.al = M at *
        simp (disch := first | omega | (simp only [lenW] <;> omega)) only [hlt, hdr, hdl, hdry, hrr, wW, wV, simprocAttr]
        refine cp hI ?_
        simp (disch := first | omega | (simp only [lenW] <;> omega)) only [hq, wW, wV, simprocAttr]
        refine ⟨i + 1, by omega, by omega, ?_⟩
        rw [hsuc, List.length_append, QaF, Qax]
        refine ⟨[(50, .blk 50 0), (76, .blk 76 1)], rfl, au0, ?_, au16⟩
        exact RB.cells rfl rfl gg (RnL.same hnr) (RB.cells rfl rfl gg (RnL.same (SU.Qa0 (Qaa _) rfl)) RB.nil)
      · have e : ¬ qI y.2.al x = true := by unfold qI; simpa using hq
        rw [if_neg e] at hsuc
        generalize mrg (fun a b => a && b) x.2.al y.2.al = M at *
        simp (disch := first | omega | (simp only [lenW] <;> omega)) only [hlt, hdr, hdl, hdry, hrr, wW, wV, simprocAttr]
        refine cp hI ?_
        simp (disch := first | omega | (simp only [lenW] <;> omega)) only [hq, wW, wV, simprocAttr]
        refine ⟨i + 1, by omega, by omega, ?_⟩
        rw [hsuc]
        refine ⟨[(50, .blk 50 0), (76, .blk 76 0)], rfl, au0, ?_, au16⟩
        exact RB.cells rfl rfl gg (RnL.same hnr) (RB.cells rfl rfl gg (RnL.same (Qaa _)) RB.nil)
    · have e : i = c.cs.length := by omega
      subst e
      simp (disch := first | omega | (simp only [lenW] <;> omega)) only [hlt, wW, wV, simprocAttr]
      refine ⟨(), [], rfl, RO.zero, RB.nil, RT.cons (Rn.fz (b := 76) (g := 0) gg rfl rfl (by simp [ints]) (RnL.same (Qaa _))) RT.nil⟩
  rintro _ _
  simp (disch := first | omega | (simp only [lenW] <;> omega)) only [wW, wV, simprocAttr]
  refine ⟨.inr trivial, _, rfl, ?_⟩
  exact Rn.same (by simp only [noRef, noRefs, Qaa]; rfl)
end Go.AM.SO
namespace Go.AM.SK
open Go.Proofs
noncomputable section
def isT : AV -> Bool | .bool true => true | _ => false
theorem Qof : ∀ u, isT u = true -> u = .bool true := by
 intro u h
 unfold isT at h
 split at h
 ·rfl
 ·cases h
theorem known15 : PSpec Tryz.prog 15 [] (.bool true) :=
 Qbt (t := ft) ft_ok Qc9 (d := 100000) isT Qof (by kernel_rfl)
end
end Go.AM.SK
namespace Go.AM.SO
open Go.Proofs Go.AM.SD Go.AM.SE
theorem short25 (p : Pln) (h : POk p) (hx : p.xn <= 9223372036854775807) : PSpec Tryz.prog 25 [plnV p] (.bool (decide (p.xn <= 4))) := by
 refine PSpec.Qar 64 ok25 rfl (by simp only [noRefs, noRef, SU.QcI]; rfl) rfl ?_
 have hlen := SU.Qgs h
 have hone := SU.Qgt h
 have a147 : (plnC p)[147]? = some (.fsl (u8s p.X) p.xn 4) := SU.QdB h (k := 0)
 show wS _ _ _ _ _ (argT 0 [.agg (plnC p)]) _ _
 generalize plnC p = C at *
 have e : decide ((p.xn : Int) <= 4) = decide (p.xn <= 4) := decide_eq_decide.2 (by omega)
 simp (disch := first | omega | (simp only [lenW] <;> omega)) only [s25, hlen, hone, a147, e, wW, wV, simprocAttr]
 exact ⟨.inr trivial, _, rfl, rfl⟩
theorem has37 (c : Cel) (h : WfCel c) (r : Nat) (y : Nat × Aut) (hy : c.rs[r]? = some y) (x : Nat) : PSpec Tryz.prog 37 [.int .i64 (x : Int), .fptr [evsV c.ev, its 99 c.cs, its 114 c.rs, exs c.xs, cos c.ks], .fptr [.int .i64 (r : Int)]] (.bool (decide (x ∈ y.2.al))) := by
 have hnr := QbN c
 refine PSpec.Qar 64 ok37 rfl (by rw [noRefs, noRefs, noRef, noRef, hnr]; rfl) rfl ?_
 have hfy := QdE h.rn hy
 have hrr : r < c.rs.length := hfy.2
 have h2 := h.r2
 have hdry := SU.Qb5 (ch := 114) hy
 have hdly : 5 <= ((c.rs.flatMap (itC 114)).drop (r * 5)).length := by rw [hdry]; simp
 have hyl := QdD (h.ra y (List.mem_of_getElem? hy)).wf
 have hC := contains62 (nz y.2.al) x (by simp; omega)
 have e : decide ((x : Int) ∈ nz y.2.al) = decide (x ∈ y.2.al) := by
  refine decide_eq_decide.2 ⟨fun h => ?_, fun h => List.mem_map.2 ⟨x, h, rfl⟩⟩
  obtain ⟨a, h1, h2⟩ := List.mem_map.1 h
  have : a = x := by omega
  exact this ▸ h1
 rw [e, QbF] at hC
 simp (disch := first | omega | (simp only [lenW] <;> omega)) only [s37, hrr, hdry, hdly, wW, wV, simprocAttr]
 refine cp hC ?_
 simp (disch := first | omega | (simp only [lenW] <;> omega)) only [wW, wV, simprocAttr]
 exact ⟨.inr trivial, _, rfl, rfl⟩
theorem law6 (p : Pln) (h : POk p) (hxn : p.xn <= 9223372036854775807) (r : Int) (hrl : -9223372036854775808 <= r /\ r <= 9223372036854775807) :
    W2 Tryz.prog ⟨SL.s6.n, 0⟩ SL.s6.body (fun e B => (e = .normal \/ e = .ret) /\ resV B.T B.h SL.s6.res = some [.bool true]) ⟨argT 0 [plnV p, .int .i64 r], .e⟩ := by
  refine (wpC.toW (n := 40) (Q := fun e T h _ => (e = .normal \/ e = .ret) /\ resV T h SL.s6.res = some [.bool true]) (show wS Tryz.prog ⟨SL.s6.n, 0⟩ SL.s6.body [] 40 _ _ _ from ?_)).mono fun e B ⟨_, h⟩ => h
  have hlen := SU.Qgs h
  have hone := SU.Qgt h
  have hnr := @SU.QcI p
  have hS := short25 p h hxn
  have hM := SU.Make26 p h
  have hw := @QnK p
  have hnc := QbN (mkC p)
  have htk : (plnC p).take 152 = plnC p := by rw [<- hlen, List.take_length]
  show wS _ _ _ _ _ (argT 0 [.agg (plnC p), .int .i64 r]) _ _
  have hS' : PSpec Tryz.prog 25 [.agg (plnC p)] (.bool (decide (p.xn <= 4))) := hS
  have hM' : PSpec Tryz.prog 26 [.agg (plnC p)] (celV (mkC p)) := hM
  clear hS hM
  generalize plnC p = C at *
  generalize mkC p = c at *
  by_cases h4 : p.xn <= 4
  · have e4 : decide (p.xn <= 4) = true := by simp [h4]
    rw [e4] at hS'
    simp (disch := first | omega | (simp only [lenW] <;> omega)) only [SL.s6, hlen, hone, htk, wW, wV, simprocAttr]
    refine cp SK.known15 ?_
    simp (disch := first | omega | (simp only [lenW] <;> omega)) only [hlen, htk, wW, wV, simprocAttr]
    refine cp hS' ?_
    simp (disch := first | omega | (simp only [lenW] <;> omega)) only [hlen, htk, wW, wV, simprocAttr]
    refine cp hM' ?_
    simp (disch := first | omega | (simp only [lenW] <;> omega)) only [wW, wV, simprocAttr]
    by_cases hr : r < 0 \/ (c.rs.length : Int) <= r
    · refine cp (touchedOut c hw r hr hrl) ?_
      by_cases h0 : r < 0
      · simp (disch := first | omega | (simp only [lenW] <;> omega)) only [h0, wW, wV, simprocAttr]
        exact ⟨.inr trivial, rfl⟩
      · have h1 := hr.resolve_left h0
        simp (disch := first | omega | (simp only [lenW] <;> omega)) only [h0, h1, wW, wV, simprocAttr]
        exact ⟨.inr trivial, rfl⟩
    · have h0 : ¬ r < 0 := fun e => hr (.inl e)
      have h1 : ¬ (c.rs.length : Int) <= r := fun e => hr (.inr e)
      obtain ⟨k, rfl⟩ : ∃ k : Nat, r = (k : Int) := ⟨r.toNat, by omega⟩
      obtain ⟨y, hy⟩ := Qap (l := c.rs) (i := k) (by omega)
      have hwy := hw.ra y (List.mem_of_getElem? hy)
      have hT := touchedIn c hw k y hy
      refine cp hT ?_
      simp (disch := first | omega | (simp only [lenW] <;> omega)) only [h0, h1, wW, wV, simprocAttr]
      refine Qav 140 (fun i : Nat => [(3, .ptr 51 0 0), (5, .ptr 52 0 0), (6, sliN (tchN (qI y.2.al) c.cs c.cs.length)), (7, .int .i64 0), (8, .sl 76 0 0 (tchN (qA y.2.al) c.cs i).length 1), (44, its 99 c.cs), (45, .int .i64 c.cs.length), (46, .int .i64 i)]) (fun i => [(51, .cells 0 [.int .i64 (k : Int)]), (52, .cells 0 [evsV c.ev, its 99 c.cs, its 114 c.rs, exs c.xs, cos c.ks]), (76, .cells 0 (ints (nz (tchN (qA y.2.al) c.cs i))))]) (fun i => i <= c.cs.length) (fun i => c.cs.length - i) 0 0 200
        (fun _ : Unit => [(6, sliN (tchN (qI y.2.al) c.cs c.cs.length)), (7, .int .i64 0), (8, sliN (tchN (qA y.2.al) c.cs c.cs.length))]) (fun _ => []) (fun _ => True) ?_ (Nat.zero_le _) ?_ ?_
      · refine ⟨[(51, .blk 41 0), (52, .blk 52 0), (76, .nil)], rfl, au0, ?_, au16⟩
        exact RB.cells rfl rfl gg (RnL.same rfl) (RB.cells rfl rfl gg (RnL.same hnc) (RB.newnil rfl rfl RB.nil))
      · rintro i hi
        have htl := @Qd1 (qA y.2.al) c.cs i
        have hc3 := hw.c3
        by_cases hlt : i < c.cs.length
        · obtain ⟨x, hx⟩ := Qap hlt
          have hxm := List.mem_of_getElem? hx
          have hwx := hw.ca x hxm
          have hdr := SU.Qb5 (ch := 99) hx
          have hdl : 5 <= ((c.cs.flatMap (itC 99)).drop (i * 5)).length := by rw [hdr]; simp
          have hH := contains36 (K := 37) (cap := [.fptr [evsV c.ev, its 99 c.cs, its 114 c.rs, exs c.xs, cos c.ks], .fptr [.int .i64 (k : Int)]]) (fun e => decide (e ∈ y.2.al)) x.2.al (by have := QdD hwx.wf; omega) (by rw [noRefs, noRef, hnc]; rfl) (fun e _ => has37 c hw k y hy e)
          have hq : x.2.al.any (fun e => decide (e ∈ y.2.al)) = qA y.2.al x := rfl
          rw [hq] at hH
          have hsuc := Qhs (q := qA y.2.al) hx
          simp (disch := first | omega | (simp only [lenW] <;> omega)) only [hlt, hdr, hdl, wW, wV, simprocAttr]
          refine SU.chc (HSpec.lend (FrzL.cons (FrzTo.same _) (FrzL.cons (FrzTo.fn FrzL.nil (FrzL.cons (FrzTo.ptr (g := 0) (cs := [evsV c.ev, its 99 c.cs, its 114 c.rs, exs c.xs, cos c.ks]) gg (FrzL.same _)) (FrzL.cons (FrzTo.ptr (g := 0) (cs := [.int .i64 (k : Int)]) gg (FrzL.same _)) FrzL.nil))) FrzL.nil)) hH rfl) ?_
          cases e : qA y.2.al x
          · rw [e, if_neg (by simp)] at hsuc
            simp (disch := first | omega | (simp only [lenW] <;> omega)) only [wW, wV, simprocAttr]
            refine ⟨i + 1, by omega, by omega, ?_⟩
            rw [hsuc]
            refine ⟨[(51, .blk 51 0), (52, .blk 52 0), (76, .blk 76 0)], rfl, au0, ?_, au16⟩
            exact RB.cells rfl rfl gg (RnL.same rfl) (RB.cells rfl rfl gg (RnL.same hnc) (RB.cells rfl rfl gg (RnL.same (Qaa _)) RB.nil))
          · rw [e, if_pos rfl] at hsuc
            simp (disch := first | omega | (simp only [lenW] <;> omega)) only [wW, wV, simprocAttr]
            refine ⟨i + 1, by omega, by omega, ?_⟩
            rw [hsuc, List.length_append, QaF, Qax]
            refine ⟨[(51, .blk 51 0), (52, .blk 52 0), (76, .blk 76 1)], rfl, au0, ?_, au16⟩
            exact RB.cells rfl rfl gg (RnL.same rfl) (RB.cells rfl rfl gg (RnL.same hnc) (RB.cells rfl rfl gg (RnL.same (SU.Qa0 (Qaa _) rfl)) RB.nil))
        · have e : i = c.cs.length := by omega
          subst e
          simp (disch := first | omega | (simp only [lenW] <;> omega)) only [hlt, wW, wV, simprocAttr]
          exact ⟨(), [], rfl, RO.zero, RB.nil, RT.cons (Rn.same (Qac _)) (RT.cons (Rn.same rfl) (RT.cons (Rn.fz (b := 76) (g := 0) gg rfl rfl (by simp [ints]) (RnL.same (Qaa _))) RT.nil))⟩
      rintro _ _
      have hE : tchN (qI y.2.al) c.cs c.cs.length = tchN (qA y.2.al) c.cs c.cs.length := Qd2 fun x hx => qI_qA (hw.ca x hx).wf.al hwy.wf.al
      have htl := @Qd1 (qA y.2.al) c.cs c.cs.length
      have hc3 := hw.c3
      have hEq := eq41N (tchN (qA y.2.al) c.cs c.cs.length) (tchN (qA y.2.al) c.cs c.cs.length) (by omega)
      rw [hE]
      have hd : decide (tchN (qA y.2.al) c.cs c.cs.length = tchN (qA y.2.al) c.cs c.cs.length) = true := by simp
      rw [hd] at hEq
      simp (disch := first | omega | (simp only [lenW] <;> omega)) only [wW, wV, simprocAttr]
      refine cp hEq ?_
      simp (disch := first | omega | (simp only [lenW] <;> omega)) only [wW, wV, simprocAttr]
      exact ⟨.inr trivial, rfl⟩
  · have e4 : decide (p.xn <= 4) = false := by simp [h4]
    rw [e4] at hS'
    simp (disch := first | omega | (simp only [lenW] <;> omega)) only [SL.s6, hlen, hone, htk, wW, wV, simprocAttr]
    refine cp SK.known15 ?_
    simp (disch := first | omega | (simp only [lenW] <;> omega)) only [hlen, htk, wW, wV, simprocAttr]
    refine cp hS' ?_
    simp (disch := first | omega | (simp only [lenW] <;> omega)) only [hlen, htk, wW, wV, simprocAttr]
    refine cp SK.known15 ?_
    simp (disch := first | omega | (simp only [lenW] <;> omega)) only [wW, wV, simprocAttr]
    exact ⟨.inr trivial, rfl⟩
theorem okl6 : okFn Tryz.prog 6 SL.s6 = true := SL.ok6
theorem law6_in (d0 : tyPln.D) (d1 : (Ty.int .i64).D) (h0 : tyPln.wf d0) (h1 : (Ty.int .i64).wf d1) :
  W2 Tryz.prog ⟨SL.s6.n, 0⟩ SL.s6.body (fun e B => (e = .normal \/ e = .ret) /\ resV B.T B.h SL.s6.res = some [.bool true]) ⟨argT 0 [tyPln.val d0, (Ty.int .i64).val d1], .e⟩ := by
 obtain ⟨p, hp, hl, e0⟩ := Qoe h0
 have e1 := Qod h1
 rw [e0]
 exact law6 p hp hl d1 e1
end Go.AM.SO
