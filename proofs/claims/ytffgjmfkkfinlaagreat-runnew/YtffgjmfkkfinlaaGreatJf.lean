/-
  Texts that the last one of this claim leans on (part 6).
-/
import Derived.Test.YtffgjmfkkfinlaaGreatJe
set_option linter.unusedSimpArgs false
set_option linter.unusedVariables false
set_option linter.unusedSectionVars false

section
/-
  Functions walked (part Ge).
-/
namespace Go.Proofs.YtffgjmfkkfinlaaGreat
open Go Vm
set_option maxRecDepth 4000
set_option linter.unusedSimpArgs false
set_option linter.unusedVariables false

-- SPEC table.Fits F_table_Fits w_table_Fits
theorem code_scheme {c : GCode} (h : F_code_Check c = 0) : 0 ≤ c.Scheme := by
  unfold F_code_Check at h
  split at h
  · exact absurd h (by decide)
  · omega
def F_table_Fits (t : CTable) (c : GCode) : Int := if F_code_Check c = 0 then (if (t.Schemes.length : Int) ≤ c.Scheme then 81 else if c.Kind = 3 then (if ((((t.Schemes[c.Scheme.toNat]?).getD []).length : Nat) : Int) ≤ c.Flat then 80 else 0) else 0) else F_code_Check c
theorem w_table_Fits (t : GTable) (c : GCode) : callI Tryz.prog cfg 9 [.g (eTable t), .g (eCode c)] [] = some ([.s (.int .i64 (F_table_Fits t.c c))], []) := by
  rw [callI_eq Tryz.func9 rfl rfl]
  have k1 := w_code_Check c
  unfold F_table_Fits
  by_cases c1 : F_code_Check c = 0
  case neg =>
    replace c1 := eq_false c1
    simp only [Tryz.f9, *, go_sem, ↓reduceIte, Nat.reduceAdd, Nat.reduceSub, Nat.reduceMul, Nat.reduceLeDiff, Nat.reduceLT, Nat.reduceEqDiff, Nat.reduceBEq, Int.reduceLT, Int.reduceLE, Int.reduceEq, Int.reduceAdd, Int.reduceNeg, Int.reduceToNat, reduceCtorEq, eTable, eCode]
  have hs := code_scheme c1
  replace c1 := eq_true c1
  have hl : (t.c.Schemes.length : Int) = (t.Schemes.xs.length : Int) := by simp [GTable.c]
  by_cases c2 : (t.Schemes.xs.length : Int) ≤ c.Scheme
  · simp only [Tryz.f9, *, go_sem, ↓reduceIte, Nat.reduceAdd, Nat.reduceSub, Nat.reduceMul, Nat.reduceLeDiff, Nat.reduceLT, Nat.reduceEqDiff, Nat.reduceBEq, Int.reduceLT, Int.reduceLE, Int.reduceEq, Int.reduceAdd, Int.reduceNeg, Int.reduceToNat, reduceCtorEq, eTable, eCode]
  by_cases c3 : c.Kind = 3
  case neg =>
    replace c3 := eq_false c3
    simp only [Tryz.f9, *, go_sem, ↓reduceIte, Nat.reduceAdd, Nat.reduceSub, Nat.reduceMul, Nat.reduceLeDiff, Nat.reduceLT, Nat.reduceEqDiff, Nat.reduceBEq, Int.reduceLT, Int.reduceLE, Int.reduceEq, Int.reduceAdd, Int.reduceNeg, Int.reduceToNat, reduceCtorEq, eTable, eCode]
  replace c3 := eq_true c3
  obtain ⟨n, hn⟩ := Int.eq_ofNat_of_zero_le hs
  have hlt : n < t.Schemes.xs.length := by omega
  have hg : t.Schemes.xs[n]? = some t.Schemes.xs[n] := List.getElem?_eq_getElem hlt
  generalize t.Schemes.xs[n] = l at hg
  have hgc : t.c.Schemes[n]? = some l.xs := by simp [GTable.c, hg]
  have c2' : ¬ (t.Schemes.xs.length : Int) ≤ (n : Int) := by omega
  obtain ⟨s0, kd, am, fl, al⟩ := c
  dsimp only at hn c3 k1 c1 hs ⊢
  subst hn
  by_cases c4 : (l.xs.length : Int) ≤ fl
  · clear c2
    simp only [Tryz.f9, *, go_sem, ↓reduceIte, Nat.reduceAdd, Nat.reduceSub, Nat.reduceMul, Nat.reduceLeDiff, Nat.reduceLT, Nat.reduceEqDiff, Nat.reduceBEq, Int.reduceLT, Int.reduceLE, Int.reduceEq, Int.reduceAdd, Int.reduceNeg, Int.reduceToNat, reduceCtorEq, eTable, eCode, Int.toNat_natCast, Option.getD_some, eL_eBand]
  · clear c2
    simp only [Tryz.f9, *, go_sem, ↓reduceIte, Nat.reduceAdd, Nat.reduceSub, Nat.reduceMul, Nat.reduceLeDiff, Nat.reduceLT, Nat.reduceEqDiff, Nat.reduceBEq, Int.reduceLT, Int.reduceLE, Int.reduceEq, Int.reduceAdd, Int.reduceNeg, Int.reduceToNat, reduceCtorEq, eTable, eCode, Int.toNat_natCast, Option.getD_some, eL_eBand]

def zeroRow (n : Nat) : List GShare := List.replicate n ⟨0, 0⟩
theorem zeroRow_map (n : Nat) : List.replicate n [D.s (.int .i64 0), D.s (.int .i64 0)] = (zeroRow n).map eShare := by simp [zeroRow, eShare]
theorem zeroRow_len (n : Nat) : (zeroRow n).length = n := by simp [zeroRow]
theorem w_social_Sum_nil (n : Int) : callI Tryz.prog cfg 76 [.s (.int .i64 n), nilS] [] = some (if n < 0 ∨ 64 < n then [nilS, .s (.int .i64 1)] else [.l none ((zeroRow n.toNat).map eShare), .s (.int .i64 0)], []) := by
  rw [callI_eq Tryz.func76 rfl rfl]
  by_cases h1 : n < 0
  · simp only [Tryz.f76, *, go_sem, ↓reduceIte, Nat.reduceAdd, Nat.reduceSub, Nat.reduceMul, Nat.reduceLeDiff, Nat.reduceLT, Nat.reduceEqDiff, Nat.reduceBEq, Int.reduceLT, Int.reduceLE, Int.reduceEq, Int.reduceAdd, Int.reduceNeg, Int.reduceToNat, reduceCtorEq]
  by_cases h2 : 64 < n
  · simp only [Tryz.f76, *, go_sem, ↓reduceIte, Nat.reduceAdd, Nat.reduceSub, Nat.reduceMul, Nat.reduceLeDiff, Nat.reduceLT, Nat.reduceEqDiff, Nat.reduceBEq, Int.reduceLT, Int.reduceLE, Int.reduceEq, Int.reduceAdd, Int.reduceNeg, Int.reduceToNat, reduceCtorEq]
  obtain ⟨m, rfl⟩ := Int.eq_ofNat_of_zero_le (by omega : 0 ≤ n)
  have h3 : m * 16 ≤ 140737488355328 := by omega
  have h4 : m ≤ 140737488355328 := by omega
  have e1 : List.take m ((zeroRow m).map eShare) = (zeroRow m).map eShare := by rw [List.take_of_length_le (by simp [zeroRow])]
  simp only [Tryz.f76, *, go_sem, ↓reduceIte, Nat.reduceAdd, Nat.reduceSub, Nat.reduceMul, Nat.reduceLeDiff, Nat.reduceLT, Nat.reduceEqDiff, Nat.reduceBEq, Int.reduceLT, Int.reduceLE, Int.reduceEq, Int.reduceAdd, Int.reduceNeg, Int.reduceToNat, reduceCtorEq, zeroRow_map, e_loop, head0, Int.lt_irrefl, List.length_map, zeroRow_len, Int.toNat_natCast]
/-- What was posted in a year. -/
structure Yr where
  n : Int
  slips : Sl GSlip
  tot : Gyear_Totals
def eYr (y : Yr) : List D := [.s (.int .i64 y.n), y.slips.d eSlip] ++ eyear_Totals y.tot
def totN (n : Nat) (h : n ≤ 64) : Gyear_Totals := ⟨⟨0, 0, 0⟩, 0, 0, .l none (zeroRow n) (by rw [zeroRow_len]; omega), 0, 0, 0⟩
theorem w_year_New (n : Nat) (h : n ≤ 64) : callI Tryz.prog cfg 37 [.s (.int .i64 (n : Int))] [] = some ([.p 0 0 0, .s (.int .i64 0)], [⟨[eYr ⟨n, .nil, totN n h⟩], false, 0, true, none⟩]) := by
  rw [callI_eq Tryz.func37 rfl rfl]
  have hs := w_social_Sum_nil n
  rw [if_neg (by omega)] at hs
  simp only [Int.toNat_natCast] at hs
  simp only [Tryz.f37, *, go_sem, ↓reduceIte, Nat.reduceAdd, Nat.reduceSub, Nat.reduceMul, Nat.reduceLeDiff, Nat.reduceLT, Nat.reduceEqDiff, Nat.reduceBEq, Int.reduceLT, Int.reduceLE, Int.reduceEq, Int.reduceAdd, Int.reduceNeg, Int.reduceToNat, reduceCtorEq, eYr, eyear_Totals, totN, Sl.d_l, Sl.d_nil]

def F_table_Same_1 (p0 : CContrib) (p1 : CContrib) : Bool := if p0.Name.toList = p1.Name.toList then (if p0.Base = p1.Base then (if p0.PeriodCeil = p1.PeriodCeil then (if p0.YearCeil = p1.YearCeil then (if p0.Round = p1.Round then (F_Equal_api_Band_api_Band p0.Bands p1.Bands) else false) else false) else false) else false) else false
theorem w_table_Same_1 (p0 : GContrib) (p1 : GContrib) : callI Tryz.prog cfg 43 [.g [.s (.string p0.Name), .s (.int .i64 p0.Base), Sl.d eBand p0.Bands, .s (.int .i64 p0.PeriodCeil), .s (.int .i64 p0.YearCeil), .s (.int .i64 p0.Round)], .g [.s (.string p1.Name), .s (.int .i64 p1.Base), Sl.d eBand p1.Bands, .s (.int .i64 p1.PeriodCeil), .s (.int .i64 p1.YearCeil), .s (.int .i64 p1.Round)]] [] = some ([.s (.bool (F_table_Same_1 p0.c p1.c))], []) := by
  rw [callI_eq Tryz.func43 rfl rfl]
  by_cases c1 : p0.Name.toList = p1.Name.toList
  ·
    have c1u : Unit → _ := fun _ => c1
    replace c1 := eq_true c1
    by_cases c2 : p0.Base = p1.Base
    ·
      have c2u : Unit → _ := fun _ => c2
      replace c2 := eq_true c2
      by_cases c3 : p0.PeriodCeil = p1.PeriodCeil
      ·
        have c3u : Unit → _ := fun _ => c3
        replace c3 := eq_true c3
        by_cases c4 : p0.YearCeil = p1.YearCeil
        ·
          have c4u : Unit → _ := fun _ => c4
          replace c4 := eq_true c4
          by_cases c5 : p0.Round = p1.Round
          ·
            have c5u : Unit → _ := fun _ => c5
            replace c5 := eq_true c5
            have k6 := w_Equal_api_Band_api_Band p0.Bands p1.Bands
            try simp only [Sl.d_l, Sl.d_nil, List.map_cons, List.map_nil, Sl.xs_l, Sl.xs_nil, GContrib.c, eBand, eContrib] at k6
            simp only [Tryz.f43, *, go_sem, ↓reduceIte, Nat.reduceAdd, Nat.reduceSub, Nat.reduceMul, Nat.reduceLeDiff, Nat.reduceLT, Nat.reduceEqDiff, Nat.reduceBEq, Int.reduceLT, Int.reduceLE, Int.reduceEq, Int.reduceAdd, Int.reduceNeg, Int.reduceToNat, reduceCtorEq, GContrib.c, eBand, eContrib, QS_inl, QS_inr, F_table_Same_1]
          ·
            have c5u : Unit → _ := fun _ => c5
            replace c5 := eq_false c5
            simp only [Tryz.f43, *, go_sem, ↓reduceIte, Nat.reduceAdd, Nat.reduceSub, Nat.reduceMul, Nat.reduceLeDiff, Nat.reduceLT, Nat.reduceEqDiff, Nat.reduceBEq, Int.reduceLT, Int.reduceLE, Int.reduceEq, Int.reduceAdd, Int.reduceNeg, Int.reduceToNat, reduceCtorEq, GContrib.c, eBand, eContrib, QS_inl, QS_inr, F_table_Same_1]
        ·
          have c4u : Unit → _ := fun _ => c4
          replace c4 := eq_false c4
          simp only [Tryz.f43, *, go_sem, ↓reduceIte, Nat.reduceAdd, Nat.reduceSub, Nat.reduceMul, Nat.reduceLeDiff, Nat.reduceLT, Nat.reduceEqDiff, Nat.reduceBEq, Int.reduceLT, Int.reduceLE, Int.reduceEq, Int.reduceAdd, Int.reduceNeg, Int.reduceToNat, reduceCtorEq, GContrib.c, eBand, eContrib, QS_inl, QS_inr, F_table_Same_1]
      ·
        have c3u : Unit → _ := fun _ => c3
        replace c3 := eq_false c3
        simp only [Tryz.f43, *, go_sem, ↓reduceIte, Nat.reduceAdd, Nat.reduceSub, Nat.reduceMul, Nat.reduceLeDiff, Nat.reduceLT, Nat.reduceEqDiff, Nat.reduceBEq, Int.reduceLT, Int.reduceLE, Int.reduceEq, Int.reduceAdd, Int.reduceNeg, Int.reduceToNat, reduceCtorEq, GContrib.c, eBand, eContrib, QS_inl, QS_inr, F_table_Same_1]
    ·
      have c2u : Unit → _ := fun _ => c2
      replace c2 := eq_false c2
      simp only [Tryz.f43, *, go_sem, ↓reduceIte, Nat.reduceAdd, Nat.reduceSub, Nat.reduceMul, Nat.reduceLeDiff, Nat.reduceLT, Nat.reduceEqDiff, Nat.reduceBEq, Int.reduceLT, Int.reduceLE, Int.reduceEq, Int.reduceAdd, Int.reduceNeg, Int.reduceToNat, reduceCtorEq, GContrib.c, eBand, eContrib, QS_inl, QS_inr, F_table_Same_1]
  ·
    have c1u : Unit → _ := fun _ => c1
    replace c1 := eq_false c1
    simp only [Tryz.f43, *, go_sem, ↓reduceIte, Nat.reduceAdd, Nat.reduceSub, Nat.reduceMul, Nat.reduceLeDiff, Nat.reduceLT, Nat.reduceEqDiff, Nat.reduceBEq, Int.reduceLT, Int.reduceLE, Int.reduceEq, Int.reduceAdd, Int.reduceNeg, Int.reduceToNat, reduceCtorEq, GContrib.c, eBand, eContrib, QS_inl, QS_inr, F_table_Same_1]

def F_table_Same_2 (p0 : (List GBand)) (p1 : (List GBand)) : Bool := (F_Equal_api_Band_api_Band p0 p1)
theorem w_table_Same_2 (p0 : (Sl GBand)) (p1 : (Sl GBand)) : callI Tryz.prog cfg 48 [Sl.d eBand p0, Sl.d eBand p1] [] = some ([.s (.bool (F_table_Same_2 p0.xs p1.xs))], []) := by
  rw [callI_eq Tryz.func48 rfl rfl]
  have k1 := w_Equal_api_Band_api_Band p0 p1
  try simp only [Sl.d_l, Sl.d_nil, List.map_cons, List.map_nil, Sl.xs_l, Sl.xs_nil, eBand] at k1
  simp only [Tryz.f48, *, go_sem, ↓reduceIte, Nat.reduceAdd, Nat.reduceSub, Nat.reduceMul, Nat.reduceLeDiff, Nat.reduceLT, Nat.reduceEqDiff, Nat.reduceBEq, Int.reduceLT, Int.reduceLE, Int.reduceEq, Int.reduceAdd, Int.reduceNeg, Int.reduceToNat, reduceCtorEq, eBand, QS_inl, QS_inr, F_table_Same_2]

-- SPECFIX slices.EqualFunc[[]api.Contrib,[]api.Contrib,api.Contrib,api.Contrib] 2:table.Same$1 F_EqualFunc_Contrib w_EqualFunc_Contrib
-- SPECFIX slices.EqualFunc[[][]api.Band,[][]api.Band,[]api.Band,[]api.Band] 2:table.Same$2 F_EqualFunc_Bands w_EqualFunc_Bands
def all2 {α β : Type} (q : α → β → Bool) : List α → List β → Bool
  | [], _ => true
  | a :: x, b :: y => q a b && all2 q x y
  | _ :: _, [] => true
def eqF2 {α β : Type} (q : α → β → Bool) (x : List α) (y : List β) : Bool := decide (x.length = y.length) && all2 q x y
theorem eqF2_len {α β : Type} (q : α → β → Bool) {x : List α} {y : List β} (h : ¬ (x.length : Int) = (y.length : Int)) : eqF2 q x y = false := by
  unfold eqF2
  have : ¬ x.length = y.length := by omega
  simp [this]
theorem eqF2_self {α : Type} (q : α → α → Bool) (hq : ∀ a, q a a = true) : ∀ x : List α, eqF2 q x x = true := by
  intro x
  have : ∀ x : List α, all2 q x x = true := by
    intro x
    induction x with
    | nil => rfl
    | cons a r ih => simp [all2, hq a, ih]
  simp [eqF2, this x]
def F_EqualFunc_Contrib (x y : List CContrib) : Bool := eqF2 F_table_Same_1 x y
theorem w_EqualFunc_Contrib (x y : Sl GContrib) : callI Tryz.prog cfg 46 [x.d eContrib, y.d eContrib, .f (.func 43) [] []] [] = some ([.s (.bool (F_EqualFunc_Contrib (x.xs.map GContrib.c) (y.xs.map GContrib.c)))], []) := by
  rw [callI_eq Tryz.func46 rfl rfl]
  unfold F_EqualFunc_Contrib
  by_cases hn : (x.xs.length : Int) = (y.xs.length : Int)
  case neg =>
    have hz := eqF2_len F_table_Same_1 (x := x.xs.map GContrib.c) (y := y.xs.map GContrib.c) (by simpa using hn)
    simp only [Tryz.f46, *, go_sem, ↓reduceIte, Nat.reduceAdd, Nat.reduceSub, Nat.reduceMul, Nat.reduceLeDiff, Nat.reduceLT, Nat.reduceEqDiff, Nat.reduceBEq, Int.reduceLT, Int.reduceLE, Int.reduceEq, Int.reduceAdd, Int.reduceNeg, Int.reduceToNat, reduceCtorEq]
  have hl : x.xs.length = y.xs.length := by omega
  have he : eqF2 F_table_Same_1 (x.xs.map GContrib.c) (y.xs.map GContrib.c) = all2 F_table_Same_1 (x.xs.map GContrib.c) (y.xs.map GContrib.c) := by simp [eqF2, hl]
  rw [he]
  have hn0 := hn
  clear he hl hn0
  simp only [Tryz.f46, *, go_sem, ↓reduceIte, Nat.reduceAdd, Nat.reduceSub, Nat.reduceMul, Nat.reduceLeDiff, Nat.reduceLT, Nat.reduceEqDiff, Nat.reduceBEq, Int.reduceLT, Int.reduceLE, Int.reduceEq, Int.reduceAdd, Int.reduceNeg, Int.reduceToNat, reduceCtorEq]
  generalize hx : exe _ _ _ (.loop _) _ = r
  obtain ⟨z, st2, rfl, hp⟩ := list_use hx (head0 _ _) x.xs x.lt
    (fun i (b : List GContrib) st => rdT st.tm 17 = .s (.int .i64 (i : Int)) ∧ rdT st.tm 16 = .s (.int .i64 (y.xs.length : Int)) ∧ rdT st.tm 15 = x.d eContrib ∧ rdT st.tm 1 = y.d eContrib ∧ rdT st.tm 2 = .f (.func 43) [] [] ∧ b = y.xs.drop i)
    (fun b l => all2 F_table_Same_1 (l.map GContrib.c) (b.map GContrib.c)) (fun r x st2 => (x = .exit 0 ∧ r = true) ∨ (x = .ret ∧ rdT st2.tm 6 = .s (.bool false) ∧ r = false)) y.xs
    (by simp only [*, go_sem, ↓reduceIte, Nat.reduceAdd, Nat.reduceSub, Nat.reduceMul, Nat.reduceLeDiff, Nat.reduceLT, Nat.reduceEqDiff, Nat.reduceBEq, Int.reduceLT, Int.reduceLE, Int.reduceEq, Int.reduceAdd, Int.reduceNeg, Int.reduceToNat, reduceCtorEq]) (by
      clear hx
      rintro i b st a rest ha hd hlt hw ⟨h13, h12, h0, h1, h2, rfl⟩
      have hiy : i < y.xs.length := by omega
      have hc : y.xs[i]? = some y.xs[i] := List.getElem?_eq_getElem hiy
      have hdy : y.xs.drop i = y.xs[i] :: y.xs.drop (i + 1) := List.drop_eq_getElem_cons hiy
      have hlt2 : (i : Int) < (y.xs.length : Int) := by omega
      generalize y.xs[i] = c at hc hdy
      have k := w_table_Same_1 a c
      have hdm : (y.xs.drop i).map GContrib.c = c.c :: (y.xs.drop (i + 1)).map GContrib.c := by rw [hdy]; rfl
      cases hac : F_table_Same_1 a.c c.c with
      | true =>
        rw [hac] at k
        simp only [*, go_sem, ↓reduceIte, Nat.reduceAdd, Nat.reduceSub, Nat.reduceMul, Nat.reduceLeDiff, Nat.reduceLT, Nat.reduceEqDiff, Nat.reduceBEq, Int.reduceLT, Int.reduceLE, Int.reduceEq, Int.reduceAdd, Int.reduceNeg, Int.reduceToNat, reduceCtorEq, eContrib, all2]
      | false =>
        rw [hac] at k
        simp only [*, go_sem, ↓reduceIte, Nat.reduceAdd, Nat.reduceSub, Nat.reduceMul, Nat.reduceLeDiff, Nat.reduceLT, Nat.reduceEqDiff, Nat.reduceBEq, Int.reduceLT, Int.reduceLE, Int.reduceEq, Int.reduceAdd, Int.reduceNeg, Int.reduceToNat, reduceCtorEq, eContrib, all2])
    (by
      clear hx
      rintro b st ⟨h13, h12, h0, h1, h2, rfl⟩
      simp only [*, go_sem, ↓reduceIte, Nat.reduceAdd, Nat.reduceSub, Nat.reduceMul, Nat.reduceLeDiff, Nat.reduceLT, Nat.reduceEqDiff, Nat.reduceBEq, Int.reduceLT, Int.reduceLE, Int.reduceEq, Int.reduceAdd, Int.reduceNeg, Int.reduceToNat, reduceCtorEq, Int.lt_irrefl, all2])
  rcases hp with ⟨rfl, h⟩ | ⟨rfl, h2, h⟩ <;> simp only [*, go_sem, ↓reduceIte, Nat.reduceAdd, Nat.reduceSub, Nat.reduceMul, Nat.reduceLeDiff, Nat.reduceLT, Nat.reduceEqDiff, Nat.reduceBEq, Int.reduceLT, Int.reduceLE, Int.reduceEq, Int.reduceAdd, Int.reduceNeg, Int.reduceToNat, reduceCtorEq]
def F_EqualFunc_Bands (x y : List (List GBand)) : Bool := eqF2 F_table_Same_2 x y
theorem w_EqualFunc_Bands (x y : Sl (Sl GBand)) : callI Tryz.prog cfg 47 [x.d eL_eBand, y.d eL_eBand, .f (.func 48) [] []] [] = some ([.s (.bool (F_EqualFunc_Bands (x.xs.map Sl.xs) (y.xs.map Sl.xs)))], []) := by
  rw [callI_eq Tryz.func47 rfl rfl]
  unfold F_EqualFunc_Bands
  by_cases hn : (x.xs.length : Int) = (y.xs.length : Int)
  case neg =>
    have hz := eqF2_len F_table_Same_2 (x := x.xs.map Sl.xs) (y := y.xs.map Sl.xs) (by simpa using hn)
    simp only [Tryz.f47, *, go_sem, ↓reduceIte, Nat.reduceAdd, Nat.reduceSub, Nat.reduceMul, Nat.reduceLeDiff, Nat.reduceLT, Nat.reduceEqDiff, Nat.reduceBEq, Int.reduceLT, Int.reduceLE, Int.reduceEq, Int.reduceAdd, Int.reduceNeg, Int.reduceToNat, reduceCtorEq]
  have hl : x.xs.length = y.xs.length := by omega
  have he : eqF2 F_table_Same_2 (x.xs.map Sl.xs) (y.xs.map Sl.xs) = all2 F_table_Same_2 (x.xs.map Sl.xs) (y.xs.map Sl.xs) := by simp [eqF2, hl]
  rw [he]
  clear he hl
  simp only [Tryz.f47, *, go_sem, ↓reduceIte, Nat.reduceAdd, Nat.reduceSub, Nat.reduceMul, Nat.reduceLeDiff, Nat.reduceLT, Nat.reduceEqDiff, Nat.reduceBEq, Int.reduceLT, Int.reduceLE, Int.reduceEq, Int.reduceAdd, Int.reduceNeg, Int.reduceToNat, reduceCtorEq]
  generalize hx : exe _ _ _ (.loop _) _ = r
  obtain ⟨z, st2, rfl, hp⟩ := list_use hx (head0 _ _) x.xs x.lt
    (fun i (b : List (Sl GBand)) st => rdT st.tm 17 = .s (.int .i64 (i : Int)) ∧ rdT st.tm 16 = .s (.int .i64 (y.xs.length : Int)) ∧ rdT st.tm 15 = x.d eL_eBand ∧ rdT st.tm 1 = y.d eL_eBand ∧ rdT st.tm 2 = .f (.func 48) [] [] ∧ b = y.xs.drop i)
    (fun b l => all2 F_table_Same_2 (l.map Sl.xs) (b.map Sl.xs)) (fun r x st2 => (x = .exit 0 ∧ r = true) ∨ (x = .ret ∧ rdT st2.tm 6 = .s (.bool false) ∧ r = false)) y.xs
    (by simp only [*, go_sem, ↓reduceIte, Nat.reduceAdd, Nat.reduceSub, Nat.reduceMul, Nat.reduceLeDiff, Nat.reduceLT, Nat.reduceEqDiff, Nat.reduceBEq, Int.reduceLT, Int.reduceLE, Int.reduceEq, Int.reduceAdd, Int.reduceNeg, Int.reduceToNat, reduceCtorEq]) (by
      clear hx
      rintro i b st a rest ha hd hlt hw ⟨h13, h12, h0, h1, h2, rfl⟩
      have hiy : i < y.xs.length := by omega
      have hc : y.xs[i]? = some y.xs[i] := List.getElem?_eq_getElem hiy
      have hdy : y.xs.drop i = y.xs[i] :: y.xs.drop (i + 1) := List.drop_eq_getElem_cons hiy
      have hlt2 : (i : Int) < (y.xs.length : Int) := by omega
      generalize y.xs[i] = c at hc hdy
      have k := w_table_Same_2 a c
      cases hac : F_table_Same_2 a.xs c.xs with
      | true =>
        rw [hac] at k
        simp only [*, go_sem, ↓reduceIte, Nat.reduceAdd, Nat.reduceSub, Nat.reduceMul, Nat.reduceLeDiff, Nat.reduceLT, Nat.reduceEqDiff, Nat.reduceBEq, Int.reduceLT, Int.reduceLE, Int.reduceEq, Int.reduceAdd, Int.reduceNeg, Int.reduceToNat, reduceCtorEq, eL_eBand, all2]
      | false =>
        rw [hac] at k
        simp only [*, go_sem, ↓reduceIte, Nat.reduceAdd, Nat.reduceSub, Nat.reduceMul, Nat.reduceLeDiff, Nat.reduceLT, Nat.reduceEqDiff, Nat.reduceBEq, Int.reduceLT, Int.reduceLE, Int.reduceEq, Int.reduceAdd, Int.reduceNeg, Int.reduceToNat, reduceCtorEq, eL_eBand, all2])
    (by
      clear hx
      rintro b st ⟨h13, h12, h0, h1, h2, rfl⟩
      simp only [*, go_sem, ↓reduceIte, Nat.reduceAdd, Nat.reduceSub, Nat.reduceMul, Nat.reduceLeDiff, Nat.reduceLT, Nat.reduceEqDiff, Nat.reduceBEq, Int.reduceLT, Int.reduceLE, Int.reduceEq, Int.reduceAdd, Int.reduceNeg, Int.reduceToNat, reduceCtorEq, Int.lt_irrefl, all2])
  rcases hp with ⟨rfl, h⟩ | ⟨rfl, h2, h⟩ <;> simp only [*, go_sem, ↓reduceIte, Nat.reduceAdd, Nat.reduceSub, Nat.reduceMul, Nat.reduceLeDiff, Nat.reduceLT, Nat.reduceEqDiff, Nat.reduceBEq, Int.reduceLT, Int.reduceLE, Int.reduceEq, Int.reduceAdd, Int.reduceNeg, Int.reduceToNat, reduceCtorEq]

def F_table_Same (p0 : CTable) (p1 : CTable) : Bool := if p0.Limit = p1.Limit then (if p0.Round = p1.Round then (if (F_Equal_api_Kind_api_Kind p0.Kinds p1.Kinds) = true then (if (F_EqualFunc_Contrib p0.Contribs p1.Contribs) = true then (F_EqualFunc_Bands p0.Schemes p1.Schemes) else false) else false) else false) else false
theorem w_table_Same (p0 : GTable) (p1 : GTable) : callI Tryz.prog cfg 14 [.g [Sl.d eL_eBand p0.Schemes, Sl.d eContrib p0.Contribs, Sl.d eKind p0.Kinds, .s (.int .i64 p0.Limit), .s (.int .i64 p0.Round)], .g [Sl.d eL_eBand p1.Schemes, Sl.d eContrib p1.Contribs, Sl.d eKind p1.Kinds, .s (.int .i64 p1.Limit), .s (.int .i64 p1.Round)]] [] = some ([.s (.bool (F_table_Same p0.c p1.c))], []) := by
  rw [callI_eq Tryz.func14 rfl rfl]
  by_cases c1 : p0.Limit = p1.Limit
  ·
    have c1u : Unit → _ := fun _ => c1
    replace c1 := eq_true c1
    by_cases c2 : p0.Round = p1.Round
    ·
      have c2u : Unit → _ := fun _ => c2
      replace c2 := eq_true c2
      cases c3 : (F_Equal_api_Kind_api_Kind p0.Kinds.xs p1.Kinds.xs) with
      | true =>
        cases c4 : (F_EqualFunc_Contrib (p0.Contribs.xs.map GContrib.c) (p1.Contribs.xs.map GContrib.c)) with
        | true =>
          try simp only [GContrib.c, GTable.c, Sl.cut_xs, List.drop_zero, List.map_take] at c4
          have k5 := w_Equal_api_Kind_api_Kind p0.Kinds p1.Kinds
          try simp only [Sl.d_l, Sl.d_nil, List.map_cons, List.map_nil, Sl.xs_l, Sl.xs_nil, GContrib.c, GTable.c, eBand, eContrib, eKind, eL_eBand, eTable] at k5
          have k6 := w_EqualFunc_Contrib p0.Contribs p1.Contribs
          try simp only [Sl.d_l, Sl.d_nil, List.map_cons, List.map_nil, Sl.xs_l, Sl.xs_nil, GContrib.c, GTable.c, eBand, eContrib, eKind, eL_eBand, eTable] at k6
          have k7 := w_EqualFunc_Bands p0.Schemes p1.Schemes
          try simp only [Sl.d_l, Sl.d_nil, List.map_cons, List.map_nil, Sl.xs_l, Sl.xs_nil, GContrib.c, GTable.c, eBand, eContrib, eKind, eL_eBand, eTable] at k7
          simp only [Tryz.f14, *, go_sem, ↓reduceIte, Nat.reduceAdd, Nat.reduceSub, Nat.reduceMul, Nat.reduceLeDiff, Nat.reduceLT, Nat.reduceEqDiff, Nat.reduceBEq, Int.reduceLT, Int.reduceLE, Int.reduceEq, Int.reduceAdd, Int.reduceNeg, Int.reduceToNat, reduceCtorEq, GContrib.c, GTable.c, eBand, eContrib, eKind, eL_eBand, eTable, QS_inl, QS_inr, F_table_Same]
        | false =>
          try simp only [GContrib.c, GTable.c, Sl.cut_xs, List.drop_zero, List.map_take] at c4
          have k8 := w_Equal_api_Kind_api_Kind p0.Kinds p1.Kinds
          try simp only [Sl.d_l, Sl.d_nil, List.map_cons, List.map_nil, Sl.xs_l, Sl.xs_nil, GContrib.c, GTable.c, eBand, eContrib, eKind, eL_eBand, eTable] at k8
          have k9 := w_EqualFunc_Contrib p0.Contribs p1.Contribs
          try simp only [Sl.d_l, Sl.d_nil, List.map_cons, List.map_nil, Sl.xs_l, Sl.xs_nil, GContrib.c, GTable.c, eBand, eContrib, eKind, eL_eBand, eTable] at k9
          simp only [Tryz.f14, *, go_sem, ↓reduceIte, Nat.reduceAdd, Nat.reduceSub, Nat.reduceMul, Nat.reduceLeDiff, Nat.reduceLT, Nat.reduceEqDiff, Nat.reduceBEq, Int.reduceLT, Int.reduceLE, Int.reduceEq, Int.reduceAdd, Int.reduceNeg, Int.reduceToNat, reduceCtorEq, GContrib.c, GTable.c, eBand, eContrib, eKind, eL_eBand, eTable, QS_inl, QS_inr, F_table_Same]
      | false =>
        have k10 := w_Equal_api_Kind_api_Kind p0.Kinds p1.Kinds
        try simp only [Sl.d_l, Sl.d_nil, List.map_cons, List.map_nil, Sl.xs_l, Sl.xs_nil, GContrib.c, GTable.c, eBand, eContrib, eKind, eL_eBand, eTable] at k10
        simp only [Tryz.f14, *, go_sem, ↓reduceIte, Nat.reduceAdd, Nat.reduceSub, Nat.reduceMul, Nat.reduceLeDiff, Nat.reduceLT, Nat.reduceEqDiff, Nat.reduceBEq, Int.reduceLT, Int.reduceLE, Int.reduceEq, Int.reduceAdd, Int.reduceNeg, Int.reduceToNat, reduceCtorEq, GContrib.c, GTable.c, eBand, eContrib, eKind, eL_eBand, eTable, QS_inl, QS_inr, F_table_Same]
    ·
      have c2u : Unit → _ := fun _ => c2
      replace c2 := eq_false c2
      simp only [Tryz.f14, *, go_sem, ↓reduceIte, Nat.reduceAdd, Nat.reduceSub, Nat.reduceMul, Nat.reduceLeDiff, Nat.reduceLT, Nat.reduceEqDiff, Nat.reduceBEq, Int.reduceLT, Int.reduceLE, Int.reduceEq, Int.reduceAdd, Int.reduceNeg, Int.reduceToNat, reduceCtorEq, GContrib.c, GTable.c, eBand, eContrib, eKind, eL_eBand, eTable, QS_inl, QS_inr, F_table_Same]
  ·
    have c1u : Unit → _ := fun _ => c1
    replace c1 := eq_false c1
    simp only [Tryz.f14, *, go_sem, ↓reduceIte, Nat.reduceAdd, Nat.reduceSub, Nat.reduceMul, Nat.reduceLeDiff, Nat.reduceLT, Nat.reduceEqDiff, Nat.reduceBEq, Int.reduceLT, Int.reduceLE, Int.reduceEq, Int.reduceAdd, Int.reduceNeg, Int.reduceToNat, reduceCtorEq, GContrib.c, GTable.c, eBand, eContrib, eKind, eL_eBand, eTable, QS_inl, QS_inr, F_table_Same]

end Go.Proofs.YtffgjmfkkfinlaaGreat
end

section
/-
  Functions walked (part Gf).
-/
namespace Go.Proofs.YtffgjmfkkfinlaaGreat
open Go Vm
set_option maxRecDepth 4000
set_option linter.unusedSimpArgs false
set_option linter.unusedVariables false

/-- A contribution of its own. -/
def ownC (c : GContrib) : GContrib := ⟨c.Name, c.Base, cloneS c.Bands, c.PeriodCeil, c.YearCeil, c.Round⟩
def mapS {α β : Type} (g : α → β) : Sl α → Sl β
  | .nil => .nil
  | .l c xs h => .l c (xs.map g) (by simpa using h)
theorem mapS_xs {α β : Type} (g : α → β) (x : Sl α) : (mapS g x).xs = x.xs.map g := by cases x <;> rfl
def ownT (t : GTable) : GTable := ⟨accS (t.Schemes.xs.map cloneS) (by simpa using t.Schemes.lt), cloneS (mapS ownC t.Contribs), cloneS t.Kinds, t.Limit, t.Round⟩
theorem ownC_c (c : GContrib) : (ownC c).c = c.c := by simp [ownC, GContrib.c, cloneS_xs]
theorem ownT_c (t : GTable) : (ownT t).c = t.c := by
  simp only [GTable.c, ownT, accS_xs, cloneS_xs, mapS_xs, List.map_map]
  congr 1
  · exact List.map_congr_left fun a _ => by simp [cloneS_xs]
  · exact List.map_congr_left fun a _ => by simp [ownC_c]
/-- Lists of a size that may be copied. -/
structure sizeT (t : GTable) : Prop where
  a : t.Schemes.xs.length ≤ 1000000
  b : t.Contribs.xs.length ≤ 1000000
  c : t.Kinds.xs.length ≤ 1000000
  d : ∀ l ∈ t.Schemes.xs, l.xs.length ≤ 1000000
  e : ∀ x ∈ t.Contribs.xs, x.Bands.xs.length ≤ 1000000
def emptyD (d : D) : Prop := d = nilS ∨ d = .l (some 0) []
theorem emptyD_facts {d : D} (h : emptyD d) : (∀ dr hp, frz dr hp d = some (d, hp)) ∧ cellsOf d = some [d] ∧ isPure d = true ∧ refsA d = [] ∧ calmA d = true ∧ lenK Tryz.prog 23 d = some (.s (.int .i64 0)) ∧ (∀ dr hp, frzG dr hp d = some (d, hp)) ∧ refs d = [] ∧ calm d = true := by
  rcases h with rfl | rfl <;> exact ⟨fun _ _ => rfl, rfl, rfl, rfl, rfl, by kernel_rfl, fun _ _ => rfl, rfl, rfl⟩
theorem w_CloneContrib_e (x : Sl GContrib) (h : x.xs = []) : ∃ d, emptyD d ∧ callI Tryz.prog cfg 77 [x.d eContrib] [] = some ([d], []) ∧ Sl.d eContrib (cloneS (mapS ownC x)) = d := by
  cases x with
  | nil =>
    refine ⟨nilS, .inl rfl, ?_, rfl⟩
    rw [callI_eq Tryz.func77 rfl rfl]
    simp only [Sl.d_nil]
    have e : binD Tryz.prog .eql 23 nilS nilS = some (.s (.bool true)) := by kernel_rfl
    simp only [Tryz.f77, *, go_sem, ↓reduceIte, Nat.reduceAdd, Nat.reduceSub, Nat.reduceMul, Nat.reduceLeDiff, Nat.reduceLT, Nat.reduceEqDiff, Nat.reduceBEq, Int.reduceLT, Int.reduceLE, Int.reduceEq, Int.reduceAdd, Int.reduceNeg, Int.reduceToNat, reduceCtorEq]
  | l c xs hx =>
    simp only [Sl.xs_l] at h
    subst h
    refine ⟨.l (some 0) [], .inr rfl, ?_, rfl⟩
    rw [callI_eq Tryz.func77 rfl rfl]
    have e : ∀ c, binD Tryz.prog .eql 23 (.l c []) nilS = some (.s (.bool false)) := fun c => by kernel_rfl
    have happ := fun fr st => app_clone (bytes := 72) (.l c [] hx) eContrib_len (by simp [Sl.xs]) (by simp [Sl.xs]) fr st
    simp only [Sl.d_l, List.map_nil, Sl.xs_l, List.isEmpty_nil, if_true] at happ
    simp only [Tryz.f77, *, go_sem, ↓reduceIte, Nat.reduceAdd, Nat.reduceSub, Nat.reduceMul, Nat.reduceLeDiff, Nat.reduceLT, Nat.reduceEqDiff, Nat.reduceBEq, Int.reduceLT, Int.reduceLE, Int.reduceEq, Int.reduceAdd, Int.reduceNeg, Int.reduceToNat, reduceCtorEq, Sl.d_l]
theorem w_CloneContrib_n (x : Sl GContrib) (h : x.xs.isEmpty = false) (hlen : x.xs.length ≤ 1000000) : callI Tryz.prog cfg 77 [x.d eContrib] [] = some ([.a 0 0 x.xs.length 6], [⟨x.xs.map eContrib, true, 0, true, none⟩]) := by
  rw [callI_eq Tryz.func77 rfl rfl]
  have happ := app_clone (bytes := 72) x eContrib_len (by omega) (by omega)
  have hnil : x.isNil = false := by cases x <;> simp_all [Sl.isNil, Sl.xs]
  simp only [Tryz.f77, *, go_sem, ↓reduceIte, Nat.reduceAdd, Nat.reduceSub, Nat.reduceMul, Nat.reduceLeDiff, Nat.reduceLT, Nat.reduceEqDiff, Nat.reduceBEq, Int.reduceLT, Int.reduceLE, Int.reduceEq, Int.reduceAdd, Int.reduceNeg, Int.reduceToNat, reduceCtorEq]
theorem cloneS_ne2 {x : Sl GContrib} (h : x.xs.isEmpty = false) : Sl.d eContrib (cloneS (mapS ownC x)) = .l none ((x.xs.map ownC).map eContrib) := by
  rw [cloneS_ne (by rw [mapS_xs]; simpa using h), mapS_xs]
set_option maxHeartbeats 1000000 in
theorem w_table_Clone (t : GTable) (hs : sizeT t) : callI Tryz.prog cfg 38 [.g (eTable t)] [] = some ([.g (eTable (ownT t))], []) := by
  rw [callI_eq Tryz.func38 rfl rfl]
  obtain ⟨ha, hb, hc, hd, he⟩ := hs
  have kk := w_Clone_api_Kind_api_Kind t.Kinds hc
  have hacc : ∀ d : D, d = accL eL_eBand (t.Schemes.xs.map cloneS) → d = Sl.d eL_eBand (ownT t).Schemes := fun d h => by rw [h, ← accS_d]; rfl
  have hol : (ownT t).Limit = t.Limit ∧ (ownT t).Round = t.Round ∧ (ownT t).Kinds = cloneS t.Kinds ∧ (ownT t).Contribs = cloneS (mapS ownC t.Contribs) := ⟨rfl, rfl, rfl, rfl⟩
  cases hemp : t.Contribs.xs.isEmpty with
  | true =>
    obtain ⟨dc, hdc, kc, hcd⟩ := w_CloneContrib_e t.Contribs (by simpa using hemp)
    obtain ⟨q1, q2, q3, q4, q5, q6, q7, q8, q9⟩ := emptyD_facts hdc
    simp only [eTable]
    simp only [Tryz.f38, *, go_sem, ↓reduceIte, Nat.reduceAdd, Nat.reduceSub, Nat.reduceMul, Nat.reduceLeDiff, Nat.reduceLT, Nat.reduceEqDiff, Nat.reduceBEq, Int.reduceLT, Int.reduceLE, Int.reduceEq, Int.reduceAdd, Int.reduceNeg, Int.reduceToNat, reduceCtorEq]
    generalize hx : exe _ _ _ (.loop _) _ = r
    obtain ⟨z, s1, rfl, hp⟩ := list_use hx (head0 _ _) t.Schemes.xs t.Schemes.lt
      (fun i (b : List (Sl GBand)) st => rdT st.tm 20 = .s (.int .i64 (i : Int)) ∧ rdT st.tm 19 = .s (.int .i64 (t.Schemes.xs.length : Int)) ∧ rdT st.tm 18 = Sl.d eL_eBand t.Schemes ∧ rdT st.tm 3 = .p 54 0 0 ∧ rdT st.tm 2 = .p 53 0 0 ∧
        rdH st.hp 53 = ⟨[[nilS, nilS, nilS, .s (.int .i64 0), .s (.int .i64 0)]], false, 0, true, none⟩ ∧ (∃ u d, rdH st.hp 54 = ⟨[[d, dc, Sl.d eKind (cloneS t.Kinds), .s (.int .i64 t.Limit), .s (.int .i64 t.Round)]], false, 0, u, none⟩ ∧ Acc st.hp 55 st.nx 1 (b.map eL_eBand) d) ∧ b.length = i ∧ 54 < st.nx)
      (fun b l => b ++ l.map cloneS) (fun b ex st2 => ex = .exit 0 ∧ rdT st2.tm 3 = .p 54 0 0 ∧ rdT st2.tm 2 = .p 53 0 0 ∧
        rdH st2.hp 53 = ⟨[[nilS, nilS, nilS, .s (.int .i64 0), .s (.int .i64 0)]], false, 0, true, none⟩ ∧ (∃ u d, rdH st2.hp 54 = ⟨[[d, dc, Sl.d eKind (cloneS t.Kinds), .s (.int .i64 t.Limit), .s (.int .i64 t.Round)]], false, 0, u, none⟩ ∧ Acc st2.hp 55 st2.nx 1 (b.map eL_eBand) d) ∧ 54 < st2.nx) []
      (by
        simp only [*, go_sem, ↓reduceIte, Nat.reduceAdd, Nat.reduceSub, Nat.reduceMul, Nat.reduceLeDiff, Nat.reduceLT, Nat.reduceEqDiff, Nat.reduceBEq, Int.reduceLT, Int.reduceLE, Int.reduceEq, Int.reduceAdd, Int.reduceNeg, Int.reduceToNat, reduceCtorEq]
        exact ⟨_, _, rfl, acc_nil _ _ _ _⟩)
      (by
        clear hx
        rintro i b st a l hga hgd hlt hw ⟨h20, h19, h18, h3, h2, h53, ⟨u, d, h54, hacc2⟩, hl, hnx⟩
        have n54 := nxc (c := 54) (n := st.nx) hnx
        have n53 := nxc (c := 53) (n := st.nx) (by omega)
        have ka := w_Clone_api_Band_api_Band a (hd a (List.mem_of_getElem? hga))
        have hi := (List.getElem?_eq_some_iff.1 hga).1
        have happ := app_one (α := Sl GBand) (f := eL_eBand) (k := 0) (nt := 52) (fn := 38) (ro := true) (K := 55) (N := st.nx) (bytes := 24) (xs := b) (d := d) (cloneS a) eL_eBand_len (by omega) (by omega) (by omega)
        have r1 := fun (hp : List (Nat × Blk)) (h : Acc hp 55 st.nx 1 (b.map eL_eBand) d) => rdH_accH (j := 54) h (by omega)
        have r2 := fun (hp : List (Nat × Blk)) (h : Acc hp 55 st.nx 1 (b.map eL_eBand) d) => rdH_accH (j := 53) h (by omega)
        simp only [eL_eBand] at happ
        simp only [*, go_sem, ↓reduceIte, Nat.reduceAdd, Nat.reduceSub, Nat.reduceMul, Nat.reduceLeDiff, Nat.reduceLT, Nat.reduceEqDiff, Nat.reduceBEq, Int.reduceLT, Int.reduceLE, Int.reduceEq, Int.reduceAdd, Int.reduceNeg, Int.reduceToNat, reduceCtorEq, eL_eBand]
        exact ⟨b ++ [cloneS a], ⟨⟨_, _, rfl, acc_low (acc_new (by omega) (by omega) (by simp [hl]) (by simp)) (by omega) _⟩, by simp [hl]⟩, by simp⟩)
      (by
        clear hx
        rintro b st ⟨h20, h19, h18, h3, h2, h53, ⟨u, d, h54, hacc2⟩, hl, hnx⟩
        simp only [*, go_sem, ↓reduceIte, Nat.reduceAdd, Nat.reduceSub, Nat.reduceMul, Nat.reduceLeDiff, Nat.reduceLT, Nat.reduceEqDiff, Nat.reduceBEq, Int.reduceLT, Int.reduceLE, Int.reduceEq, Int.reduceAdd, Int.reduceNeg, Int.reduceToNat, reduceCtorEq, Int.lt_irrefl, List.map_nil, List.append_nil]
        exact ⟨_, _, rfl, hacc2⟩)
    clear hx
    obtain ⟨rfl, p3, p2, p53, ⟨u, d, p54, pacc⟩, pnx⟩ := hp
    simp only [List.nil_append] at pacc
    have f1 := fun b => frz_acc (acc_low pacc (show 53 < 55 by omega) b)
    have f2 := hacc _ (acc_sl pacc)
    simp only [*, go_sem, ↓reduceIte, Nat.reduceAdd, Nat.reduceSub, Nat.reduceMul, Nat.reduceLeDiff, Nat.reduceLT, Nat.reduceEqDiff, Nat.reduceBEq, Int.reduceLT, Int.reduceLE, Int.reduceEq, Int.reduceAdd, Int.reduceNeg, Int.reduceToNat, reduceCtorEq]
    rw [e_loop]
    simp only [head0, *, go_sem, ↓reduceIte, Nat.reduceAdd, Nat.reduceSub, Nat.reduceMul, Nat.reduceLeDiff, Nat.reduceLT, Nat.reduceEqDiff, Nat.reduceBEq, Int.reduceLT, Int.reduceLE, Int.reduceEq, Int.reduceAdd, Int.reduceNeg, Int.reduceToNat, reduceCtorEq]
  | false =>
    have kc := w_CloneContrib_n t.Contribs hemp hb
    have hcd := cloneS_ne2 hemp
    have hnl : (0 < t.Contribs.xs.length) = True := eq_true (by
      cases hz : t.Contribs.xs with
      | nil => rw [hz] at hemp; simp at hemp
      | cons _ _ => simp)
    simp only [eTable]
    simp only [Tryz.f38, *, go_sem, ↓reduceIte, Nat.reduceAdd, Nat.reduceSub, Nat.reduceMul, Nat.reduceLeDiff, Nat.reduceLT, Nat.reduceEqDiff, Nat.reduceBEq, Int.reduceLT, Int.reduceLE, Int.reduceEq, Int.reduceAdd, Int.reduceNeg, Int.reduceToNat, reduceCtorEq]
    generalize hx : exe _ _ _ (.loop _) _ = r
    obtain ⟨z, s1, rfl, hp⟩ := list_use hx (head0 _ _) t.Schemes.xs t.Schemes.lt
      (fun i (b : List (Sl GBand)) st => rdT st.tm 20 = .s (.int .i64 (i : Int)) ∧ rdT st.tm 19 = .s (.int .i64 (t.Schemes.xs.length : Int)) ∧ rdT st.tm 18 = Sl.d eL_eBand t.Schemes ∧ rdT st.tm 3 = .p 54 0 0 ∧ rdT st.tm 2 = .p 53 0 0 ∧
        rdH st.hp 53 = ⟨[[nilS, nilS, nilS, .s (.int .i64 0), .s (.int .i64 0)]], false, 0, true, none⟩ ∧ rdH st.hp 55 = ⟨t.Contribs.xs.map eContrib, true, 0, true, none⟩ ∧ (∃ d, rdH st.hp 54 = ⟨[[d, .a 55 0 t.Contribs.xs.length 6, Sl.d eKind (cloneS t.Kinds), .s (.int .i64 t.Limit), .s (.int .i64 t.Round)]], false, 0, false, none⟩ ∧ Acc st.hp 56 st.nx 1 (b.map eL_eBand) d) ∧ b.length = i ∧ 55 < st.nx)
      (fun b l => b ++ l.map cloneS) (fun b ex st2 => ex = .exit 0 ∧ rdT st2.tm 3 = .p 54 0 0 ∧ rdT st2.tm 2 = .p 53 0 0 ∧
        rdH st2.hp 53 = ⟨[[nilS, nilS, nilS, .s (.int .i64 0), .s (.int .i64 0)]], false, 0, true, none⟩ ∧ rdH st2.hp 55 = ⟨t.Contribs.xs.map eContrib, true, 0, true, none⟩ ∧ (∃ d, rdH st2.hp 54 = ⟨[[d, .a 55 0 t.Contribs.xs.length 6, Sl.d eKind (cloneS t.Kinds), .s (.int .i64 t.Limit), .s (.int .i64 t.Round)]], false, 0, false, none⟩ ∧ Acc st2.hp 56 st2.nx 1 (b.map eL_eBand) d) ∧ 55 < st2.nx) []
      (by
        simp only [*, go_sem, ↓reduceIte, Nat.reduceAdd, Nat.reduceSub, Nat.reduceMul, Nat.reduceLeDiff, Nat.reduceLT, Nat.reduceEqDiff, Nat.reduceBEq, Int.reduceLT, Int.reduceLE, Int.reduceEq, Int.reduceAdd, Int.reduceNeg, Int.reduceToNat, reduceCtorEq]
        exact ⟨_, rfl, acc_nil _ _ _ _⟩)
      (by
        clear hx
        rintro i b st a l hga hgd hlt hw ⟨h20, h19, h18, h3, h2, h53, h55, ⟨d, h54, hacc2⟩, hl, hnx⟩
        have n55 := nxc (c := 55) (n := st.nx) hnx
        have n54 := nxc (c := 54) (n := st.nx) (by omega)
        have n53 := nxc (c := 53) (n := st.nx) (by omega)
        have ka := w_Clone_api_Band_api_Band a (hd a (List.mem_of_getElem? hga))
        have hi := (List.getElem?_eq_some_iff.1 hga).1
        have happ := app_one (α := Sl GBand) (f := eL_eBand) (k := 0) (nt := 52) (fn := 38) (ro := true) (K := 56) (N := st.nx) (bytes := 24) (xs := b) (d := d) (cloneS a) eL_eBand_len (by omega) (by omega) (by omega)
        have r0 := fun (hp : List (Nat × Blk)) (h : Acc hp 56 st.nx 1 (b.map eL_eBand) d) => rdH_accH (j := 55) h (by omega)
        have r1 := fun (hp : List (Nat × Blk)) (h : Acc hp 56 st.nx 1 (b.map eL_eBand) d) => rdH_accH (j := 54) h (by omega)
        have r2 := fun (hp : List (Nat × Blk)) (h : Acc hp 56 st.nx 1 (b.map eL_eBand) d) => rdH_accH (j := 53) h (by omega)
        simp only [eL_eBand] at happ
        clear kc hcd hnl
        simp only [*, go_sem, ↓reduceIte, Nat.reduceAdd, Nat.reduceSub, Nat.reduceMul, Nat.reduceLeDiff, Nat.reduceLT, Nat.reduceEqDiff, Nat.reduceBEq, Int.reduceLT, Int.reduceLE, Int.reduceEq, Int.reduceAdd, Int.reduceNeg, Int.reduceToNat, reduceCtorEq, eL_eBand]
        exact ⟨b ++ [cloneS a], ⟨⟨_, rfl, acc_low (acc_new (by omega) (by omega) (by simp [hl]) (by simp)) (by omega) _⟩, by simp [hl]⟩, by simp⟩)
      (by
        clear hx
        rintro b st ⟨h20, h19, h18, h3, h2, h53, h55, ⟨d, h54, hacc2⟩, hl, hnx⟩
        clear kc hcd hnl
        simp only [*, go_sem, ↓reduceIte, Nat.reduceAdd, Nat.reduceSub, Nat.reduceMul, Nat.reduceLeDiff, Nat.reduceLT, Nat.reduceEqDiff, Nat.reduceBEq, Int.reduceLT, Int.reduceLE, Int.reduceEq, Int.reduceAdd, Int.reduceNeg, Int.reduceToNat, reduceCtorEq, Int.lt_irrefl, List.map_nil, List.append_nil]
        exact ⟨_, rfl, hacc2⟩)
    clear hx
    obtain ⟨rfl, p3, p2, p53, p55, ⟨d, p54, pacc⟩, pnx⟩ := hp
    simp only [List.nil_append] at pacc
    have m55 := nxc (c := 55) (n := s1.nx) pnx
    clear kc
    simp only [*, go_sem, ↓reduceIte, Nat.reduceAdd, Nat.reduceSub, Nat.reduceMul, Nat.reduceLeDiff, Nat.reduceLT, Nat.reduceEqDiff, Nat.reduceBEq, Int.reduceLT, Int.reduceLE, Int.reduceEq, Int.reduceAdd, Int.reduceNeg, Int.reduceToNat, reduceCtorEq]
    generalize hx : exe _ _ _ (.loop _) _ = r
    obtain ⟨z, s2, rfl, hp⟩ := list_use hx (head0 _ _) t.Contribs.xs t.Contribs.lt
      (fun i (b : List GContrib × List GContrib) st => rdT st.tm 35 = .s (.int .i64 (i : Int)) ∧ rdT st.tm 34 = .s (.int .i64 (t.Contribs.xs.length : Int)) ∧ rdT st.tm 3 = .p 54 0 0 ∧ rdT st.tm 2 = .p 53 0 0 ∧
        rdH st.hp 53 = ⟨[[nilS, nilS, nilS, .s (.int .i64 0), .s (.int .i64 0)]], false, 0, true, none⟩ ∧ rdH st.hp 55 = ⟨(b.1 ++ b.2).map eContrib, true, 0, true, none⟩ ∧ rdH st.hp 54 = ⟨[[d, .a 55 0 t.Contribs.xs.length 6, Sl.d eKind (cloneS t.Kinds), .s (.int .i64 t.Limit), .s (.int .i64 t.Round)]], false, 0, false, none⟩ ∧ Acc st.hp 56 st.nx 1 ((t.Schemes.xs.map cloneS).map eL_eBand) d ∧ b.1.length = i ∧ b.2 = t.Contribs.xs.drop i ∧ 55 < st.nx)
      (fun b l => b.1 ++ l.map ownC) (fun b ex st2 => ex = .exit 2 ∧ rdT st2.tm 3 = .p 54 0 0 ∧ rdT st2.tm 2 = .p 53 0 0 ∧
        rdH st2.hp 53 = ⟨[[nilS, nilS, nilS, .s (.int .i64 0), .s (.int .i64 0)]], false, 0, true, none⟩ ∧ rdH st2.hp 55 = ⟨b.map eContrib, true, 0, true, none⟩ ∧ rdH st2.hp 54 = ⟨[[d, .a 55 0 t.Contribs.xs.length 6, Sl.d eKind (cloneS t.Kinds), .s (.int .i64 t.Limit), .s (.int .i64 t.Round)]], false, 0, false, none⟩ ∧ Acc st2.hp 56 st2.nx 1 ((t.Schemes.xs.map cloneS).map eL_eBand) d ∧ 55 < st2.nx) ([], t.Contribs.xs)
      (by simp only [*, go_sem, ↓reduceIte, Nat.reduceAdd, Nat.reduceSub, Nat.reduceMul, Nat.reduceLeDiff, Nat.reduceLT, Nat.reduceEqDiff, Nat.reduceBEq, Int.reduceLT, Int.reduceLE, Int.reduceEq, Int.reduceAdd, Int.reduceNeg, Int.reduceToNat, reduceCtorEq]) (by
        clear hx
        rintro i ⟨done, rest⟩ st a l hga hgd hlt hw ⟨h35, h34, h3, h2, h53, h55, h54, hacc2, hl, hr, hnx⟩
        dsimp only at h55 hl hr ⊢
        rw [hgd] at hr
        subst hr
        have n55 := nxc (c := 55) (n := st.nx) hnx
        have ka := w_Clone_api_Band_api_Band a.Bands (he a (List.mem_of_getElem? hga))
        have hi := (List.getElem?_eq_some_iff.1 hga).1
        have hget : ((done ++ a :: l).map eContrib)[i]? = some (eContrib a) := by rw [← hl]; simp
        have hset : ((done ++ a :: l).map eContrib).set i (eContrib (ownC a)) = ((done ++ [ownC a]) ++ l).map eContrib := by rw [← hl]; simp
        simp only [eContrib, ownC] at hget hset
        clear hcd hnl p53 p54 p55 p2 p3 pacc
        simp only [*, go_sem, ↓reduceIte, Nat.reduceAdd, Nat.reduceSub, Nat.reduceMul, Nat.reduceLeDiff, Nat.reduceLT, Nat.reduceEqDiff, Nat.reduceBEq, Int.reduceLT, Int.reduceLE, Int.reduceEq, Int.reduceAdd, Int.reduceNeg, Int.reduceToNat, reduceCtorEq, eContrib]
        exact ⟨(done ++ [ownC a], l), ⟨rfl, acc_low hacc2 (by omega) _, by simp [hl], by rw [← List.drop_drop, hgd]; rfl⟩, by simp⟩)
      (by
        clear hx
        rintro ⟨done, rest⟩ st ⟨h35, h34, h3, h2, h53, h55, h54, hacc2, hl, hr, hnx⟩
        dsimp only at h55 hl hr ⊢
        rw [List.drop_length] at hr
        subst hr
        clear hcd hnl p53 p54 p55 p2 p3 pacc
        simp only [*, go_sem, ↓reduceIte, Nat.reduceAdd, Nat.reduceSub, Nat.reduceMul, Nat.reduceLeDiff, Nat.reduceLT, Nat.reduceEqDiff, Nat.reduceBEq, Int.reduceLT, Int.reduceLE, Int.reduceEq, Int.reduceAdd, Int.reduceNeg, Int.reduceToNat, reduceCtorEq, Int.lt_irrefl, List.map_nil, List.append_nil])
    clear hx
    obtain ⟨rfl, g3, g2, g53, g55, g54, gacc, gnx⟩ := hp
    simp only [List.nil_append] at g55
    have f1 := fun b => frz_acc (acc_low gacc (show 53 < 56 by omega) b)
    have f2 := hacc _ (acc_sl gacc)
    have f3 := fun b => rdH_accF (j := 55) (acc_low gacc (show 53 < 56 by omega) b) (by omega)
    have f4 : List.take t.Contribs.xs.length ((t.Contribs.xs.map ownC).map eContrib) = (t.Contribs.xs.map ownC).map eContrib := List.take_of_length_le (by simp)
    clear p53 p54 p55 p2 p3 pacc
    simp only [*, go_sem, ↓reduceIte, Nat.reduceAdd, Nat.reduceSub, Nat.reduceMul, Nat.reduceLeDiff, Nat.reduceLT, Nat.reduceEqDiff, Nat.reduceBEq, Int.reduceLT, Int.reduceLE, Int.reduceEq, Int.reduceAdd, Int.reduceNeg, Int.reduceToNat, reduceCtorEq, List.length_map]

end Go.Proofs.YtffgjmfkkfinlaaGreat
end

section
/-
  Functions walked (part Gg).
-/
namespace Go.Proofs.YtffgjmfkkfinlaaGreat
open Go Vm
set_option maxRecDepth 4000
set_option linter.unusedSimpArgs false
set_option linter.unusedVariables false

/-- An employee, but for the year, what was posted, and the orders. -/
structure Emp where
  table : GTable
  code : GCode
  prot : Int
  next : Sl GElement
  inputs : Sl Grun_Input
/-- The cells of an employee; where the year, what was posted and the orders stand. -/
def eEmp (y p o : Nat) (e : Emp) : List D := eTable e.table ++ [.p y 0 0] ++ eCode e.code ++ [.s (.int .i64 e.prot), e.next.d eElement, e.inputs.d erun_Input, .p p 0 0, .p o 0 0]
def emB (y p o : Nat) (e : Emp) : Blk := ⟨[eEmp y p o e], false, 0, false, none⟩
def yrB (u : Bool) (y : Yr) : Blk := ⟨[eYr y], false, 0, u, none⟩
def bkB (u : Bool) (l : Sl Gorder_State) : Blk := ⟨[[l.d eorder_State]], false, 0, u, none⟩
def pyD : List D := [.s (.int .i64 4), .s (.int .i64 2024), .s (.int .i64 4), .s (.int .i64 6), .s (.int .i64 2025), .s (.int .i64 4), .s (.int .i64 5), .s (.int .i64 45386), .s (.int .i64 365)]
def pyB : Blk := ⟨[pyD], false, 0, true, none⟩
theorem callI_of {f : Nat} {a : List D} {b : List Blk} {r : List D × List Blk} (n : Nat) (h : callN Tryz.prog cfg n f a b = some r) : callI Tryz.prog cfg f a b = some r := callI_iff.2 ⟨n, h⟩
theorem w_Count : callI Tryz.prog cfg 17 [.p 0 0 0] [pyB] = some ([.s (.int .i64 12)], [pyB]) := callI_of 10 (by kernel_rfl)
/-- Why there is no employee with a table and a code. -/
def F_New (t : CTable) (c : GCode) : Int := if F_keep_Check t = 0 then F_table_Fits t c else F_keep_Check t
theorem keep_table {t : CTable} (h : F_keep_Check t = 0) : F_table_Check t = 0 := by
  unfold F_keep_Check F_keep_Worst at h
  by_cases c : F_table_Check t = 0
  · exact c
  · simp [c] at h
theorem bands_len {xs : List GBand} (h : F_band_Check xs = 0) : xs.length ≤ 8 := by
  unfold F_band_Check at h
  split at h
  · simp
  · split at h
    · exact absurd h (by decide)
    · omega
theorem schemes_ok : ∀ {l : List (List GBand)} {u : Unit}, F_table_schemes_l0 l = .inl u → ∀ x ∈ l, F_band_Check x = 0
  | [], _, _, x, hx => by simp at hx
  | a :: l, u, h, x, hx => by
    simp only [F_table_schemes_l0] at h
    by_cases c : F_band_Check a = 0
    case neg => simp [c] at h
    rw [if_pos c] at h
    rcases List.mem_cons.1 hx with rfl | hx
    · exact c
    · split at h
      · exact schemes_ok h x hx
      · cases h
theorem contribs_ok {t : CTable} : ∀ {l : List CContrib} {i j : Nat}, F_table_contribs_l0 t i l = .inl j → ∀ x ∈ l, F_band_Check x.Bands = 0
  | [], _, _, _, x, hx => by simp at hx
  | a :: l, i, j, h, x, hx => by
    simp only [F_table_contribs_l0] at h
    by_cases c : F_band_Check a.Bands = 0
    case neg =>
      simp only [c, if_false] at h
      repeat' split at h
      all_goals cases h
    simp only [c, if_true] at h
    rcases List.mem_cons.1 hx with rfl | hx
    · exact c
    · repeat' split at h
      all_goals first | (cases h; done) | exact contribs_ok h x hx
theorem schemes_l1_ne : ∀ {l : List GBand} {r : Int}, F_table_schemes_l1 l = .inr r → r ≠ 0
  | [], _, h => by cases h
  | a :: l, r, h => by
    simp only [F_table_schemes_l1] at h
    split at h
    · exact schemes_l1_ne h
    · cases h; decide
theorem schemes_ne : ∀ {l : List (List GBand)} {r : Int}, F_table_schemes_l0 l = .inr r → r ≠ 0
  | [], _, h => by cases h
  | a :: l, r, h => by
    simp only [F_table_schemes_l0] at h
    split at h
    · split at h
      · exact schemes_ne h
      · rename_i r' hr; cases h; exact schemes_l1_ne hr
    · rename_i hc; cases h; exact hc
theorem contribs_ne {t : CTable} : ∀ {l : List CContrib} {i : Nat} {r : Int}, F_table_contribs_l0 t i l = .inr r → r ≠ 0
  | [], _, _, h => by cases h
  | a :: l, i, r, h => by
    simp only [F_table_contribs_l0] at h
    repeat' split at h
    all_goals first | (cases h; first | decide | assumption) | exact contribs_ne h
theorem table_sizeC {t : CTable} (h : F_table_Check t = 0) : (∀ x ∈ t.Schemes, x.length ≤ 8) ∧ ∀ x ∈ t.Contribs, x.Bands.length ≤ 8 := by
  obtain ⟨h1, h2, _⟩ := table_parts h
  constructor
  · unfold F_table_schemes at h1
    split at h1
    · exact absurd h1 (by decide)
    split at h1
    · exact absurd h1 (by decide)
    split at h1
    · rename_i u hu; exact fun x hx => bands_len (schemes_ok hu x hx)
    · rename_i r hr
      subst h1
      exact absurd rfl (schemes_ne hr)
  · unfold F_table_contribs at h2
    split at h2
    · exact absurd h2 (by decide)
    split at h2
    · rename_i u hu; exact fun x hx => bands_len (contribs_ok hu x hx)
    · rename_i r hr
      subst h2
      exact absurd rfl (contribs_ne hr)
theorem sizeT_ok {t : GTable} (h : F_table_Check t.c = 0) : sizeT t := by
  obtain ⟨a, b, c⟩ := table_lens h
  obtain ⟨d, e⟩ := table_sizeC h
  simp only [GTable.c, List.length_map] at a b c
  refine ⟨by omega, by omega, by omega, fun l hl => ?_, fun x hx => ?_⟩
  · have := d l.xs (by simp only [GTable.c]; exact List.mem_map_of_mem hl)
    omega
  · have := e x.c (by simp only [GTable.c]; exact List.mem_map_of_mem hx)
    simp only [GContrib.c] at this
    omega
theorem w_New_bad (t : GTable) (c : GCode) (y : D) (bs : List Blk) (hy : y = .s (.pointer none) ∧ bs = [] ∨ y = .p 0 0 0 ∧ bs = [pyB]) (h : ¬ F_New t.c c = 0) : callI Tryz.prog cfg 6 [.g (eTable t), y, .g (eCode c)] bs = some ([.s (.pointer none), .s (.int .i64 (F_New t.c c))], bs) := by
  rw [callI_eq Tryz.func6 rfl rfl]
  have k1 := w_keep_Check t
  have k2 := w_table_Fits t c
  simp only [eTable, eCode] at k2
  unfold F_New at h ⊢
  rcases hy with ⟨rfl, rfl⟩ | ⟨rfl, rfl⟩ <;> by_cases c1 : F_keep_Check t.c = 0
  · rw [if_pos c1] at h
    replace c1 := eq_true c1
    replace h := eq_false h
    simp only [Tryz.f6, *, go_sem, ↓reduceIte, Nat.reduceAdd, Nat.reduceSub, Nat.reduceMul, Nat.reduceLeDiff, Nat.reduceLT, Nat.reduceEqDiff, Nat.reduceBEq, Int.reduceLT, Int.reduceLE, Int.reduceEq, Int.reduceAdd, Int.reduceNeg, Int.reduceToNat, reduceCtorEq, eTable, eCode]
  · replace c1 := eq_false c1
    simp only [Tryz.f6, *, go_sem, ↓reduceIte, Nat.reduceAdd, Nat.reduceSub, Nat.reduceMul, Nat.reduceLeDiff, Nat.reduceLT, Nat.reduceEqDiff, Nat.reduceBEq, Int.reduceLT, Int.reduceLE, Int.reduceEq, Int.reduceAdd, Int.reduceNeg, Int.reduceToNat, reduceCtorEq, eTable, eCode]
  · rw [if_pos c1] at h
    replace c1 := eq_true c1
    replace h := eq_false h
    simp only [Tryz.f6, *, go_sem, ↓reduceIte, Nat.reduceAdd, Nat.reduceSub, Nat.reduceMul, Nat.reduceLeDiff, Nat.reduceLT, Nat.reduceEqDiff, Nat.reduceBEq, Int.reduceLT, Int.reduceLE, Int.reduceEq, Int.reduceAdd, Int.reduceNeg, Int.reduceToNat, reduceCtorEq, eTable, eCode, pyB, pyD]
  · replace c1 := eq_false c1
    simp only [Tryz.f6, *, go_sem, ↓reduceIte, Nat.reduceAdd, Nat.reduceSub, Nat.reduceMul, Nat.reduceLeDiff, Nat.reduceLT, Nat.reduceEqDiff, Nat.reduceBEq, Int.reduceLT, Int.reduceLE, Int.reduceEq, Int.reduceAdd, Int.reduceNeg, Int.reduceToNat, reduceCtorEq, eTable, eCode, pyB, pyD]
theorem New_parts {t : CTable} {c : GCode} (h : F_New t c = 0) : F_keep_Check t = 0 ∧ F_table_Fits t c = 0 := by
  unfold F_New at h
  by_cases c1 : F_keep_Check t = 0
  · rw [if_pos c1] at h; exact ⟨c1, h⟩
  · rw [if_neg c1] at h; exact absurd h c1
theorem w_New_nil (t : GTable) (c : GCode) (h : F_New t.c c = 0) : callI Tryz.prog cfg 6 [.g (eTable t), .s (.pointer none), .g (eCode c)] [] = some ([.s (.pointer none), .s (.int .i64 3)], []) := by
  rw [callI_eq Tryz.func6 rfl rfl]
  have k1 := w_keep_Check t
  have k2 := w_table_Fits t c
  obtain ⟨c1, c2⟩ := New_parts h
  rw [c1] at k1
  rw [c2] at k2
  simp only [eTable, eCode] at k2
  clear h c1 c2
  simp only [Tryz.f6, *, go_sem, ↓reduceIte, Nat.reduceAdd, Nat.reduceSub, Nat.reduceMul, Nat.reduceLeDiff, Nat.reduceLT, Nat.reduceEqDiff, Nat.reduceBEq, Int.reduceLT, Int.reduceLE, Int.reduceEq, Int.reduceAdd, Int.reduceNeg, Int.reduceToNat, reduceCtorEq, eTable, eCode]
theorem contrib_le {t : GTable} (h : F_table_Check t.c = 0) : t.Contribs.xs.length ≤ 64 := by
  have := (table_lens h).1
  simp only [GTable.c, List.length_map] at this
  omega
def empN (t : GTable) (c : GCode) : Emp := ⟨ownT t, c, 0, .nil, .nil⟩
theorem w_New (t : GTable) (c : GCode) (h : F_New t.c c = 0) : callI Tryz.prog cfg 6 [.g (eTable t), .p 0 0 0, .g (eCode c)] [pyB] = some ([.p 1 0 0, .s (.int .i64 0)], [pyB, emB 0 2 3 (empN t c), yrB true ⟨(t.Contribs.xs.length : Int), .nil, totN t.Contribs.xs.length (contrib_le (keep_table (New_parts h).1))⟩, bkB true .nil]) := by
  rw [callI_eq Tryz.func6 rfl rfl]
  have k1 := w_keep_Check t
  have k2 := w_table_Fits t c
  obtain ⟨c1, c2⟩ := New_parts h
  have hT := keep_table c1
  have k3 := w_table_Clone t (sizeT_ok hT)
  have k4 := w_year_New t.Contribs.xs.length (contrib_le hT)
  rw [c1] at k1
  rw [c2] at k2
  simp only [eTable, eCode, eYr, eyear_Totals, totN, Sl.d_l, Sl.d_nil, List.cons_append, List.nil_append] at k1 k2 k3 k4
  simp only [Tryz.f6, *, go_sem, ↓reduceIte, Nat.reduceAdd, Nat.reduceSub, Nat.reduceMul, Nat.reduceLeDiff, Nat.reduceLT, Nat.reduceEqDiff, Nat.reduceBEq, Int.reduceLT, Int.reduceLE, Int.reduceEq, Int.reduceAdd, Int.reduceNeg, Int.reduceToNat, reduceCtorEq, eTable, eCode, pyB, pyD, emB, eEmp, yrB, eYr, eyear_Totals, totN, bkB, empN, Sl.d_l, Sl.d_nil]

end Go.Proofs.YtffgjmfkkfinlaaGreat
end

section
/-
  Functions walked (part Gh).
-/
namespace Go.Proofs.YtffgjmfkkfinlaaGreat
open Go Vm
set_option maxRecDepth 4000
set_option linter.unusedSimpArgs false
set_option linter.unusedVariables false

/-- An employee's blocks, the employee ahead. -/
def wrl (e : Emp) (u : Bool) (y : Yr) (u2 : Bool) (l : Sl Gorder_State) : List Blk := [emB 1 2 3 e, pyB, yrB u y, bkB u2 l]
def F_Period (e : Emp) : Int := if (e.inputs.xs.length : Int) = 12 then 0 else IntKind.i64.wrap ((e.inputs.xs.length : Int) + 1)
section
variable (e : Emp) (u : Bool) (y : Yr) (u2 : Bool) (l : Sl Gorder_State)
theorem w_Period : callI Tryz.prog cfg 10 [.p 0 0 0] (wrl e u y u2 l) = some ([.s (.int .i64 (F_Period e))], wrl e u y u2 l) := by
  unfold wrl
  rw [callI_eq Tryz.func10 rfl rfl]
  have k := w_Count
  by_cases h : (e.inputs.xs.length : Int) = 12
  · replace h := eq_true h
    simp only [pyB, pyD] at k ⊢
    simp only [Tryz.f10, *, go_sem, ↓reduceIte, Nat.reduceAdd, Nat.reduceSub, Nat.reduceMul, Nat.reduceLeDiff, Nat.reduceLT, Nat.reduceEqDiff, Nat.reduceBEq, Int.reduceLT, Int.reduceLE, Int.reduceEq, Int.reduceAdd, Int.reduceNeg, Int.reduceToNat, reduceCtorEq, emB, eEmp, eTable, eCode, yrB, eYr, eyear_Totals, bkB, F_Period]
  · replace h := eq_false h
    simp only [pyB, pyD] at k ⊢
    simp only [Tryz.f10, *, go_sem, ↓reduceIte, Nat.reduceAdd, Nat.reduceSub, Nat.reduceMul, Nat.reduceLeDiff, Nat.reduceLT, Nat.reduceEqDiff, Nat.reduceBEq, Int.reduceLT, Int.reduceLE, Int.reduceEq, Int.reduceAdd, Int.reduceNeg, Int.reduceToNat, reduceCtorEq, emB, eEmp, eTable, eCode, yrB, eYr, eyear_Totals, bkB, F_Period]
theorem w_TaxCode : callI Tryz.prog cfg 11 [.p 0 0 0] (wrl e u y u2 l) = some ([.g (eCode e.code)], wrl e u y u2 l) := by
  unfold wrl
  rw [callI_eq Tryz.func11 rfl rfl]
  simp only [Tryz.f11, *, go_sem, ↓reduceIte, Nat.reduceAdd, Nat.reduceSub, Nat.reduceMul, Nat.reduceLeDiff, Nat.reduceLT, Nat.reduceEqDiff, Nat.reduceBEq, Int.reduceLT, Int.reduceLE, Int.reduceEq, Int.reduceAdd, Int.reduceNeg, Int.reduceToNat, reduceCtorEq, emB, eEmp, eTable, eCode, yrB, eYr, eyear_Totals, bkB, pyB, pyD]
theorem w_Protected : callI Tryz.prog cfg 12 [.p 0 0 0] (wrl e u y u2 l) = some ([.s (.int .i64 e.prot)], wrl e u y u2 l) := by
  unfold wrl
  rw [callI_eq Tryz.func12 rfl rfl]
  simp only [Tryz.f12, *, go_sem, ↓reduceIte, Nat.reduceAdd, Nat.reduceSub, Nat.reduceMul, Nat.reduceLeDiff, Nat.reduceLT, Nat.reduceEqDiff, Nat.reduceBEq, Int.reduceLT, Int.reduceLE, Int.reduceEq, Int.reduceAdd, Int.reduceNeg, Int.reduceToNat, reduceCtorEq, emB, eEmp, eTable, eCode, yrB, eYr, eyear_Totals, bkB, pyB, pyD]
theorem w_Next (h : e.next.xs.length ≤ 1000000) : callI Tryz.prog cfg 13 [.p 0 0 0] (wrl e u y u2 l) = some ([(cloneS e.next).d eElement], wrl e u y u2 l) := by
  unfold wrl
  rw [callI_eq Tryz.func13 rfl rfl]
  have k := w_Clone_api_Element_api_Element e.next h
  simp only [Tryz.f13, *, go_sem, ↓reduceIte, Nat.reduceAdd, Nat.reduceSub, Nat.reduceMul, Nat.reduceLeDiff, Nat.reduceLT, Nat.reduceEqDiff, Nat.reduceBEq, Int.reduceLT, Int.reduceLE, Int.reduceEq, Int.reduceAdd, Int.reduceNeg, Int.reduceToNat, reduceCtorEq, emB, eEmp, eTable, eCode, yrB, eYr, eyear_Totals, bkB, pyB, pyD]
theorem w_Table (h : sizeT e.table) : callI Tryz.prog cfg 15 [.p 0 0 0] (wrl e u y u2 l) = some ([.g (eTable (ownT e.table))], wrl e u y u2 l) := by
  unfold wrl
  rw [callI_eq Tryz.func15 rfl rfl]
  have k := w_table_Clone e.table h
  simp only [eTable] at k
  simp only [Tryz.f15, *, go_sem, ↓reduceIte, Nat.reduceAdd, Nat.reduceSub, Nat.reduceMul, Nat.reduceLeDiff, Nat.reduceLT, Nat.reduceEqDiff, Nat.reduceBEq, Int.reduceLT, Int.reduceLE, Int.reduceEq, Int.reduceAdd, Int.reduceNeg, Int.reduceToNat, reduceCtorEq, emB, eEmp, eTable, eCode, yrB, eYr, eyear_Totals, bkB, pyB, pyD]
theorem w_Year : callI Tryz.prog cfg 16 [.p 0 0 0] (wrl e u y u2 l) = some ([.p 1 0 0], wrl e u y u2 l) := by
  unfold wrl
  rw [callI_eq Tryz.func16 rfl rfl]
  simp only [Tryz.f16, *, go_sem, ↓reduceIte, Nat.reduceAdd, Nat.reduceSub, Nat.reduceMul, Nat.reduceLeDiff, Nat.reduceLT, Nat.reduceEqDiff, Nat.reduceBEq, Int.reduceLT, Int.reduceLE, Int.reduceEq, Int.reduceAdd, Int.reduceNeg, Int.reduceToNat, reduceCtorEq, emB, eEmp, eTable, eCode, yrB, eYr, eyear_Totals, bkB, pyB, pyD]
end

end Go.Proofs.YtffgjmfkkfinlaaGreat
end

section
/-
  Functions walked (part Gi).
-/
namespace Go.Proofs.YtffgjmfkkfinlaaGreat
open Go Vm
set_option maxRecDepth 4000
set_option linter.unusedSimpArgs false
set_option linter.unusedVariables false

theorem same1_self (c : CContrib) : F_table_Same_1 c c = true := by simp [F_table_Same_1, F_Equal_api_Band_api_Band]
theorem same2_self (c : List GBand) : F_table_Same_2 c c = true := by simp [F_table_Same_2, F_Equal_api_Band_api_Band]
theorem same_self (t : CTable) : F_table_Same t t = true := by
  simp [F_table_Same, F_EqualFunc_Contrib, F_EqualFunc_Bands, eqF2_self _ same1_self, eqF2_self _ same2_self, F_Equal_api_Kind_api_Kind]
theorem w_pays : callI Tryz.prog cfg 5 [] [] = some ([.s (.bool true)], []) := callI_of 200 pays_run
theorem w_months : callI Tryz.prog cfg 7 [] [] = some ([.p 0 0 0], [pyB]) := callI_of 100 (by kernel_rfl)
set_option maxHeartbeats 1000000 in
theorem law_RunNew (t : GTable) (c : GCode) : callI Tryz.prog cfg 3 [.g (eTable t), .g (eCode c)] [] = some ([.s (.bool true)], []) := by
  rw [callI_eq Tryz.func3 rfl rfl]
  have kp := w_pays
  have km := w_months
  by_cases l1 : 20 < (t.Schemes.xs.length : Int)
  · simp only [Tryz.f3, *, go_sem, ↓reduceIte, Nat.reduceAdd, Nat.reduceSub, Nat.reduceMul, Nat.reduceLeDiff, Nat.reduceLT, Nat.reduceEqDiff, Nat.reduceBEq, Int.reduceLT, Int.reduceLE, Int.reduceEq, Int.reduceAdd, Int.reduceNeg, Int.reduceToNat, reduceCtorEq, eTable, eCode]
  by_cases l2 : 20 < (t.Contribs.xs.length : Int)
  · simp only [Tryz.f3, *, go_sem, ↓reduceIte, Nat.reduceAdd, Nat.reduceSub, Nat.reduceMul, Nat.reduceLeDiff, Nat.reduceLT, Nat.reduceEqDiff, Nat.reduceBEq, Int.reduceLT, Int.reduceLE, Int.reduceEq, Int.reduceAdd, Int.reduceNeg, Int.reduceToNat, reduceCtorEq, eTable, eCode]
  by_cases l3 : 30 < (t.Kinds.xs.length : Int)
  · simp only [Tryz.f3, *, go_sem, ↓reduceIte, Nat.reduceAdd, Nat.reduceSub, Nat.reduceMul, Nat.reduceLeDiff, Nat.reduceLT, Nat.reduceEqDiff, Nat.reduceBEq, Int.reduceLT, Int.reduceLE, Int.reduceEq, Int.reduceAdd, Int.reduceNeg, Int.reduceToNat, reduceCtorEq, eTable, eCode]
  have kc := w_keep_Check t
  have kf := w_table_Fits t c
  by_cases h : F_New t.c c = 0
  case neg =>
    have kn := w_New_bad t c (.p 0 0 0) [pyB] (.inr ⟨rfl, rfl⟩) h
    simp only [eTable, eCode, pyB, pyD] at kc kf kn km
    by_cases h1 : F_keep_Check t.c = 0
    · have e1 : F_New t.c c = F_table_Fits t.c c := if_pos h1
      rw [e1] at h kn
      replace h := eq_false h
      replace h1 := eq_true h1
      simp only [Tryz.f3, *, go_sem, ↓reduceIte, Nat.reduceAdd, Nat.reduceSub, Nat.reduceMul, Nat.reduceLeDiff, Nat.reduceLT, Nat.reduceEqDiff, Nat.reduceBEq, Int.reduceLT, Int.reduceLE, Int.reduceEq, Int.reduceAdd, Int.reduceNeg, Int.reduceToNat, reduceCtorEq, eTable, eCode]
    · have e1 : F_New t.c c = F_keep_Check t.c := if_neg h1
      rw [e1] at h kn
      replace h := eq_false h
      replace h1 := eq_false h1
      simp only [Tryz.f3, *, go_sem, ↓reduceIte, Nat.reduceAdd, Nat.reduceSub, Nat.reduceMul, Nat.reduceLeDiff, Nat.reduceLT, Nat.reduceEqDiff, Nat.reduceBEq, Int.reduceLT, Int.reduceLE, Int.reduceEq, Int.reduceAdd, Int.reduceNeg, Int.reduceToNat, reduceCtorEq, eTable, eCode]
  have kn := w_New t c h
  have kz := w_New_nil t c h
  obtain ⟨h1, h2⟩ := New_parts h
  have hle := contrib_le (keep_table h1)
  have hso : sizeT (ownT t) := sizeT_ok (by rw [ownT_c]; exact keep_table h1)
  generalize hy : (⟨(t.Contribs.xs.length : Int), .nil, totN t.Contribs.xs.length (contrib_le (keep_table h1))⟩ : Yr) = y
  have kn2 : callI Tryz.prog cfg 6 [.g (eTable t), .p 0 0 0, .g (eCode c)] [pyB] = some ([.p 1 0 0, .s (.int .i64 0)], [pyB, emB 0 2 3 (empN t c), yrB true y, bkB true .nil]) := by rw [← hy]; exact kn
  have k1 := w_Period (empN t c) true y true .nil
  have k2 := w_TaxCode (empN t c) true y true .nil
  have k3 := w_Protected (empN t c) true y true .nil
  have k4 := w_Next (empN t c) true y true .nil (by simp [empN, Sl.xs])
  have k5 := w_Table (empN t c) true y true .nil hso
  have k6 := w_Year (empN t c) true y true .nil
  have k7 := w_Count
  have k8 := w_table_Same (ownT (ownT t)) t
  have e8 : F_table_Same (ownT (ownT t)).c t.c = true := by rw [ownT_c, ownT_c]; exact same_self _
  rw [e8] at k8
  rw [h1] at kc
  rw [h2] at kf
  have w1 : IntKind.i64.wrap 1 = 1 := by decide
  have hP : F_Period (empN t c) = 1 := by simp [F_Period, empN, Sl.xs, w1]
  rw [hP] at k1
  clear kn hy h e8 hle hso h1 h2 hP
  simp only [eTable, eCode, pyB, pyD, wrl, emB, eEmp, yrB, eYr, eyear_Totals, bkB, empN, Sl.d_nil, List.cons_append, List.nil_append] at kc kf kn2 kz km k1 k2 k3 k4 k5 k6 k7 k8
  have hcl : cloneS (Sl.nil : Sl GElement) = .nil := rfl
  simp only [hcl, Sl.d_nil] at k4
  generalize ownT (ownT t) = t2 at k5 k8
  generalize ownT t = t1 at *
  simp only [Tryz.f3, *, go_sem, ↓reduceIte, Nat.reduceAdd, Nat.reduceSub, Nat.reduceMul, Nat.reduceLeDiff, Nat.reduceLT, Nat.reduceEqDiff, Nat.reduceBEq, Int.reduceLT, Int.reduceLE, Int.reduceEq, Int.reduceAdd, Int.reduceNeg, Int.reduceToNat, reduceCtorEq, eTable, eCode]

end Go.Proofs.YtffgjmfkkfinlaaGreat
end

section
/-
  Functions walked (part Arg).
-/
namespace Go.Proofs.YtffgjmfkkfinlaaGreat
open Go Vm
set_option maxRecDepth 4000
set_option linter.unusedSimpArgs false
set_option linter.unusedVariables false

def rng (x : Int) : Prop := -9223372036854775808 ≤ x ∧ x < 9223372036854775808
theorem fit2 {n : Nat} {ds : List D} (h : Fit Tryz.prog (n + 1) 2 ds) : ∃ x : Int, ds = [.s (.int .i64 x)] ∧ rng x := by
  obtain ⟨x, hx, hw⟩ := fit_int Tryz.underlying2 h
  exact ⟨x, hx, wf_i64 hw⟩
theorem fit3 {n : Nat} {ds : List D} (h : Fit Tryz.prog (n + 1) 3 ds) : ∃ x : Int, ds = [.s (.int .i64 x)] ∧ rng x := by
  obtain ⟨x, hx, hw⟩ := fit_int Tryz.underlying3 h
  exact ⟨x, hx, wf_i64 hw⟩
def okBand (x : GBand) : Prop := rng x.From ∧ rng x.Rate ∧ rng x.Employer
theorem fit115 {n : Nat} {ds : List D} (h : Fit Tryz.prog (n + 2) 115 ds) : ∃ x : GBand, ds = [.s (.int .i64 x.From), .s (.int .i64 x.Rate), .s (.int .i64 x.Employer)] ∧ okBand x := by
  obtain ⟨p0, q, rfl, h0, h⟩ := fitL_cons (fit_struct Tryz.underlying115 h)
  obtain ⟨p1, q, rfl, h1, h⟩ := fitL_cons h
  obtain ⟨p2, q, rfl, h2, h⟩ := fitL_cons h
  cases fitL_nil h
  obtain ⟨x0, rfl, k0⟩ := fit2 h0
  obtain ⟨x1, rfl, k1⟩ := fit3 h1
  obtain ⟨x2, rfl, k2⟩ := fit3 h2
  exact ⟨⟨x0, x1, x2⟩, rfl, k0, k1, k2⟩
theorem fit109 {n : Nat} {ds : List D} (h : Fit Tryz.prog (n + 3) 109 ds) : ∃ x : (Sl GBand), ds = [Sl.d eBand x] ∧ (∀ a ∈ (x).xs, okBand a) := by
  obtain ⟨x, hx, hp⟩ := fit_sl (f := eBand) Tryz.underlying109 (fun x hx => fit115 hx) h
  exact ⟨x, hx, hp⟩
theorem fit22 {n : Nat} {ds : List D} (h : Fit Tryz.prog (n + 4) 22 ds) : ∃ x : (Sl (Sl GBand)), ds = [Sl.d eL_eBand x] ∧ (∀ a ∈ (x).xs, (∀ aa ∈ (a).xs, okBand aa)) := by
  obtain ⟨x, hx, hp⟩ := fit_sl (f := eL_eBand) Tryz.underlying22 (fun x hx => fit109 hx) h
  exact ⟨x, hx, hp⟩
theorem fit9 {n : Nat} {ds : List D} (h : Fit Tryz.prog (n + 1) 9 ds) : ∃ x : ByteArray, ds = [.s (.string x)] ∧ True := by
  obtain ⟨x, hx⟩ := fit_str Tryz.underlying9 h
  exact ⟨x, hx, trivial⟩
def okContrib (x : GContrib) : Prop := True ∧ rng x.Base ∧ (∀ a ∈ (x.Bands).xs, okBand a) ∧ rng x.PeriodCeil ∧ rng x.YearCeil ∧ rng x.Round
theorem fit112 {n : Nat} {ds : List D} (h : Fit Tryz.prog (n + 4) 112 ds) : ∃ x : GContrib, ds = [.s (.string x.Name), .s (.int .i64 x.Base), Sl.d eBand x.Bands, .s (.int .i64 x.PeriodCeil), .s (.int .i64 x.YearCeil), .s (.int .i64 x.Round)] ∧ okContrib x := by
  obtain ⟨p0, q, rfl, h0, h⟩ := fitL_cons (fit_struct Tryz.underlying112 h)
  obtain ⟨p1, q, rfl, h1, h⟩ := fitL_cons h
  obtain ⟨p2, q, rfl, h2, h⟩ := fitL_cons h
  obtain ⟨p3, q, rfl, h3, h⟩ := fitL_cons h
  obtain ⟨p4, q, rfl, h4, h⟩ := fitL_cons h
  obtain ⟨p5, q, rfl, h5, h⟩ := fitL_cons h
  cases fitL_nil h
  obtain ⟨x0, rfl, k0⟩ := fit9 h0
  obtain ⟨x1, rfl, k1⟩ := fit3 h1
  obtain ⟨x2, rfl, k2⟩ := fit109 h2
  obtain ⟨x3, rfl, k3⟩ := fit2 h3
  obtain ⟨x4, rfl, k4⟩ := fit2 h4
  obtain ⟨x5, rfl, k5⟩ := fit3 h5
  exact ⟨⟨x0, x1, x2, x3, x4, x5⟩, rfl, k0, k1, k2, k3, k4, k5⟩
theorem fit23 {n : Nat} {ds : List D} (h : Fit Tryz.prog (n + 5) 23 ds) : ∃ x : (Sl GContrib), ds = [Sl.d eContrib x] ∧ (∀ a ∈ (x).xs, okContrib a) := by
  obtain ⟨x, hx, hp⟩ := fit_sl (f := eContrib) Tryz.underlying23 (fun x hx => fit112 hx) h
  exact ⟨x, hx, hp⟩
def okKind (x : GKind) : Prop := True ∧ rng x.Cash ∧ rng x.Taxable ∧ rng x.Social
theorem fit119 {n : Nat} {ds : List D} (h : Fit Tryz.prog (n + 2) 119 ds) : ∃ x : GKind, ds = [.s (.string x.Name), .s (.int .i64 x.Cash), .s (.int .i64 x.Taxable), .s (.int .i64 x.Social)] ∧ okKind x := by
  obtain ⟨p0, q, rfl, h0, h⟩ := fitL_cons (fit_struct Tryz.underlying119 h)
  obtain ⟨p1, q, rfl, h1, h⟩ := fitL_cons h
  obtain ⟨p2, q, rfl, h2, h⟩ := fitL_cons h
  obtain ⟨p3, q, rfl, h3, h⟩ := fitL_cons h
  cases fitL_nil h
  obtain ⟨x0, rfl, k0⟩ := fit9 h0
  obtain ⟨x1, rfl, k1⟩ := fit3 h1
  obtain ⟨x2, rfl, k2⟩ := fit3 h2
  obtain ⟨x3, rfl, k3⟩ := fit3 h3
  exact ⟨⟨x0, x1, x2, x3⟩, rfl, k0, k1, k2, k3⟩
theorem fit24 {n : Nat} {ds : List D} (h : Fit Tryz.prog (n + 3) 24 ds) : ∃ x : (Sl GKind), ds = [Sl.d eKind x] ∧ (∀ a ∈ (x).xs, okKind a) := by
  obtain ⟨x, hx, hp⟩ := fit_sl (f := eKind) Tryz.underlying24 (fun x hx => fit119 hx) h
  exact ⟨x, hx, hp⟩
def okTable (x : GTable) : Prop := (∀ a ∈ (x.Schemes).xs, (∀ aa ∈ (a).xs, okBand aa)) ∧ (∀ a ∈ (x.Contribs).xs, okContrib a) ∧ (∀ a ∈ (x.Kinds).xs, okKind a) ∧ rng x.Limit ∧ rng x.Round
theorem fit26 {n : Nat} {ds : List D} (h : Fit Tryz.prog (n + 6) 26 ds) : ∃ x : GTable, ds = [Sl.d eL_eBand x.Schemes, Sl.d eContrib x.Contribs, Sl.d eKind x.Kinds, .s (.int .i64 x.Limit), .s (.int .i64 x.Round)] ∧ okTable x := by
  obtain ⟨p0, q, rfl, h0, h⟩ := fitL_cons (fit_struct Tryz.underlying26 h)
  obtain ⟨p1, q, rfl, h1, h⟩ := fitL_cons h
  obtain ⟨p2, q, rfl, h2, h⟩ := fitL_cons h
  obtain ⟨p3, q, rfl, h3, h⟩ := fitL_cons h
  obtain ⟨p4, q, rfl, h4, h⟩ := fitL_cons h
  cases fitL_nil h
  obtain ⟨x0, rfl, k0⟩ := fit22 h0
  obtain ⟨x1, rfl, k1⟩ := fit23 h1
  obtain ⟨x2, rfl, k2⟩ := fit24 h2
  obtain ⟨x3, rfl, k3⟩ := fit3 h3
  obtain ⟨x4, rfl, k4⟩ := fit3 h4
  exact ⟨⟨x0, x1, x2, x3, x4⟩, rfl, k0, k1, k2, k3, k4⟩

theorem fit4 {n : Nat} {ds : List D} (h : Fit Tryz.prog (n + 1) 4 ds) : ∃ x : Bool, ds = [.s (.bool x)] ∧ True := by
  obtain ⟨x, hx⟩ := fit_bool Tryz.underlying4 h
  exact ⟨x, hx, trivial⟩
def okCode (x : GCode) : Prop := rng x.Scheme ∧ rng x.Kind ∧ rng x.Amount ∧ rng x.Flat ∧ True
theorem fit28 {n : Nat} {ds : List D} (h : Fit Tryz.prog (n + 2) 28 ds) : ∃ x : GCode, ds = [.s (.int .i64 x.Scheme), .s (.int .i64 x.Kind), .s (.int .i64 x.Amount), .s (.int .i64 x.Flat), .s (.bool x.Alone)] ∧ okCode x := by
  obtain ⟨p0, q, rfl, h0, h⟩ := fitL_cons (fit_struct Tryz.underlying28 h)
  obtain ⟨p1, q, rfl, h1, h⟩ := fitL_cons h
  obtain ⟨p2, q, rfl, h2, h⟩ := fitL_cons h
  obtain ⟨p3, q, rfl, h3, h⟩ := fitL_cons h
  obtain ⟨p4, q, rfl, h4, h⟩ := fitL_cons h
  cases fitL_nil h
  obtain ⟨x0, rfl, k0⟩ := fit3 h0
  obtain ⟨x1, rfl, k1⟩ := fit3 h1
  obtain ⟨x2, rfl, k2⟩ := fit2 h2
  obtain ⟨x3, rfl, k3⟩ := fit3 h3
  obtain ⟨x4, rfl, k4⟩ := fit4 h4
  exact ⟨⟨x0, x1, x2, x3, x4⟩, rfl, k0, k1, k2, k3, k4⟩

end Go.Proofs.YtffgjmfkkfinlaaGreat
end
