/-
  Texts that the last one of this claim leans on (part 4).
-/
import Derived.Test.YtjkojcnimnhclaaJc

section
/-
  The second statement's run: payslip by payslip.
-/
namespace Go.Proofs.Ytjkojcnimnhclaa
open Go Vm
set_option maxRecDepth 4000
set_option linter.unusedSimpArgs false
set_option linter.unusedVariables false

/-- The error of a payslip that is to be posted: by definition. -/
def wantF (y : Yr) (w : Tot) (s : Slip) : Int := if ¬ checkF s y.n = 0 then checkF s y.n else if ¬ s.period = (y.slips.xs.length : Int) + 1 then 6 else (sumT w s).2

/-- What holds between a year and what is wanted of it. -/
structure YOk (y : Yr) (w : Tot) (m i : Nat) : Prop where
  n : y.n = (m : Int)
  m64 : m ≤ 64
  v : w.v = y.tot.v
  ok : okT y.tot
  len : y.tot.shares.xs.length = m
  cnt : y.slips.xs.length ≤ i
  lens : lensOk y.slips.xs
theorem okT_v {t w : Tot} (hv : w.v = t.v) (h : okT t) : okT w := by
  simp only [Tot.v, TotV.mk.injEq] at hv
  obtain ⟨v1, v2, v3, v4, v5, v6, v7, v8, v9⟩ := hv
  simp only [okT, v1, v2, v3, v4, v6, v7, v8, v9]
  exact h
theorem shares_v {t w : Tot} (hv : w.v = t.v) : w.shares.xs = t.shares.xs := by
  simp only [Tot.v, TotV.mk.injEq] at hv
  exact hv.2.2.2.2.2.1

theorem try_want {y : Yr} {w : Tot} {m i : Nat} (h : YOk y w m i) (s : Slip) : (tryF y s).2 = wantF y w s ∧ (¬ wantF y w s = 0 → (tryF y s).1 = tot0) ∧
    (wantF y w s = 0 → (tryF y s).1.v = (sumT w s).1.v ∧ checkF s y.n = 0 ∧ s.period = (y.slips.xs.length : Int) + 1 ∧ (sumT w s).2 = 0 ∧ (s.shares.xs.length ≤ 1000000 ∧ s.taken.xs.length ≤ 1000000 → YOk (postY y s) (sumT w s).1 m (i + 1))) := by
  unfold tryF wantF
  by_cases c1 : checkF s y.n = 0
  case neg => simp [c1]
  by_cases c2 : s.period = (y.slips.xs.length : Int) + 1
  case neg => simp [c1, c2]
  obtain ⟨hs, hl, htk, hk, _⟩ := checkF_ok c1
  have hl2 : s.shares.xs.length = y.tot.shares.xs.length := by rw [h.len]; rw [h.n] at hl; omega
  obtain ⟨k1, k2⟩ := sum_add h.v h.ok hs htk hk hl2
  by_cases c3 : (addT y.tot s).2 = 0
  case neg => simp [c1, c2, c3, k1]
  obtain ⟨k3, k4, k5⟩ := k2 c3
  rw [k1]
  simp only [c1, c2, c3, not_true_eq_false, if_false, false_imp_iff, true_and, true_imp_iff, k3.symm]
  intro hln
  refine ⟨h.n, h.m64, k3, k4, k5.trans h.len, ?_, ?_⟩
  · simp only [postY, Sl.xs_l, List.length_append, List.length_cons, List.length_nil]; have := h.cnt; omega
  · intro z hz
    simp only [postY, Sl.xs_l, List.mem_append, List.mem_singleton] at hz
    rcases hz with hz | rfl
    · exact h.lens z hz
    · simpa [copyS, cloneS_xs] using hln

/-- Where the wanted totals stand: their shares may be a row of the run's own. -/
def wantB (w : Tot) (u : Bool) (d : D) : Blk := ⟨[[.s (.int .i64 w.cash), .s (.int .i64 w.taxable), .s (.int .i64 w.social), .s (.int .i64 w.tax), .s (.int .i64 w.shortfall), d, .s (.int .i64 w.net), .s (.int .i64 w.taken), .s (.int .i64 w.pay)]], false, 0, u, none⟩
def wantI (hp : List (Nat × Blk)) (w : Tot) : Prop := ∃ u, rdH hp 143 = wantB w u (w.shares.d she)
def wantA (hp : List (Nat × Blk)) (w : Tot) : Prop := ∃ u md cp l, w.shares = .l none l ∧ rdH hp 143 = wantB w u (.a 144 0 l.length 2) ∧ rdH hp 144 = ⟨l.map she, true, md, true, cp⟩ ∧ (md = 0 ∨ md = 1)

theorem ownT_v (t : Tot) : (ownT t).v = t.v := by simp [ownT, Tot.v, cloneS_xs]
theorem copyS_v (s : Slip) : (copyS s).v = s.v := by simp [copyS, Slip.v, cloneS_xs]
theorem same14_true {a b : Tot} (h1 : a.shares.xs.length < 9223372036854775808) (h : a.v = b.v) : callI Try.prog cfg 14 [.g (totE a), .g (totE b)] [] = some ([.s (.bool true)], []) := by
  rw [same14 a b h1]; simp [h]
theorem same17_true {a b : Slip} (h1 : a.shares.xs.length < 9223372036854775808) (h2 : a.taken.xs.length < 9223372036854775808) (h : a.v = b.v) : callI Try.prog cfg 17 [.g (slipE a), .g (slipE b)] [] = some ([.s (.bool true)], []) := by
  rw [same17 a b h1 h2]; simp [h]
theorem YOk.up {y : Yr} {w : Tot} {m i : Nat} (h : YOk y w m i) : YOk y w m (i + 1) := ⟨h.n, h.m64, h.v, h.ok, h.len, by have := h.cnt; omega, h.lens⟩
theorem sumT_bad {w : Tot} {s : Slip} (h : ¬ (sumT w s).2 = 0) : (sumT w s).1 = w := by
  unfold sumT at h ⊢
  split
  · rename_i h1; rw [if_pos h1] at h; exact absurd rfl h
  · rfl
theorem she_take (l : List Sh) : List.take l.length (l.map she) = l.map she := by rw [List.take_of_length_le (by simp)]
set_option maxHeartbeats 2000000 in
theorem posts4 (n : Int) (xs : Sl Slip) (hlen : xs.xs.length < 9223372036854775808) : callI Try.prog cfg 4 [.s (.int .i64 n), xs.d slipE] [] = some ([.s (.bool true)], []) := by
  rw [callI_eq Try.func4 rfl rfl]
  cases hsm : smallF xs.xs with
  | false => simp only [Try.f4, *, go_sem, ↓reduceIte, Nat.reduceAdd, Nat.reduceSub, Nat.reduceMul, Nat.reduceLeDiff, Nat.reduceLT, Nat.reduceEqDiff, Int.reduceLT, Int.reduceLE, Int.reduceEq, Int.reduceAdd, Int.reduceNeg, Int.reduceToNat, reduceCtorEq]
  | true =>
  have hnew := new11 n
  by_cases h1 : n < 0
  · rw [if_pos (Or.inl h1)] at hnew
    simp only [Try.f4, *, go_sem, ↓reduceIte, Nat.reduceAdd, Nat.reduceSub, Nat.reduceMul, Nat.reduceLeDiff, Nat.reduceLT, Nat.reduceEqDiff, Int.reduceLT, Int.reduceLE, Int.reduceEq, Int.reduceAdd, Int.reduceNeg, Int.reduceToNat, reduceCtorEq]
  by_cases h2 : 64 < n
  · rw [if_pos (Or.inr h2)] at hnew
    simp only [Try.f4, *, go_sem, ↓reduceIte, Nat.reduceAdd, Nat.reduceSub, Nat.reduceMul, Nat.reduceLeDiff, Nat.reduceLT, Nat.reduceEqDiff, Int.reduceLT, Int.reduceLE, Int.reduceEq, Int.reduceAdd, Int.reduceNeg, Int.reduceToNat, reduceCtorEq]
  rw [if_neg (by omega)] at hnew
  obtain ⟨m, rfl⟩ := Int.eq_ofNat_of_zero_le (by omega : 0 ≤ n)
  have h3 : m * 16 ≤ 140737488355328 := by omega
  have h4 : m ≤ 140737488355328 := by omega
  simp only [yB, yE, totE] at hnew
  simp only [Try.f4, *, go_sem, ↓reduceIte, Nat.reduceAdd, Nat.reduceSub, Nat.reduceMul, Nat.reduceLeDiff, Nat.reduceLT, Nat.reduceEqDiff, Int.reduceLT, Int.reduceLE, Int.reduceEq, Int.reduceAdd, Int.reduceNeg, Int.reduceToNat, reduceCtorEq, zeroRow_map]
  generalize hx : exe _ _ _ (.loop _) _ = r
  have hsl : ∀ s ∈ xs.xs, s.shares.xs.length ≤ 30 ∧ s.taken.xs.length ≤ 30 := by
    intro s hs
    simp only [smallF, Bool.and_eq_true] at hsm
    have := List.all_eq_true.1 hsm.1 s hs
    simpa [smallS] using this
  have h60 : xs.xs.length ≤ 60 := by
    simp only [smallF, Bool.and_eq_true] at hsm
    simpa using hsm.2
  clear hnew hsm
  obtain ⟨z, s1, rfl, hp⟩ := list_use hx (head0 _ _) xs.xs hlen
    (fun i (b : Yr × Tot) st => rdT st.tm 50 = .s (.int .i64 (i : Int)) ∧ rdT st.tm 49 = .s (.int .i64 (xs.xs.length : Int)) ∧ rdT st.tm 48 = xs.d slipE ∧ rdT st.tm 0 = .s (.int .i64 (m : Int)) ∧ rdT st.tm 5 = .p 142 0 0 ∧ rdT st.tm 7 = .p 143 0 0 ∧ rdT st.tm 8 = .s (.int .i64 (b.1.slips.xs.length : Int)) ∧
      (∃ u, rdH st.hp 142 = yB u b.1) ∧ (wantI st.hp b.2 ∨ wantA st.hp b.2) ∧ 144 < st.nx ∧ YOk b.1 b.2 m i)
    (fun _ _ => ()) (fun _ ex st2 => ex = .exit 0) (⟨(m : Int), .nil, totN m⟩, totN m)
    (by
      have e0 : (totN (m : Int)).shares = .l none (zeroRow m) := by simp [totN]
      have hy0 : YOk ⟨(m : Int), .nil, totN m⟩ (totN m) m 0 := by
        refine ⟨rfl, by omega, rfl, ?_, by rw [e0, Sl.xs_l, zeroRow_len], by simp [Sl.xs], by simp [lensOk, Sl.xs]⟩
        refine ⟨ok0, ok0, ok0, ok0, ok0, ok0, ok0, ?_⟩
        rw [e0, Sl.xs_l]
        intro x hx
        have := List.eq_of_mem_replicate hx
        rw [this]
        exact ⟨ok0, ok0⟩
      simp only [*, go_sem, ↓reduceIte, Nat.reduceAdd, Nat.reduceSub, Nat.reduceMul, Nat.reduceLeDiff, Nat.reduceLT, Nat.reduceEqDiff, Int.reduceLT, Int.reduceLE, Int.reduceEq, Int.reduceAdd, Int.reduceNeg, Int.reduceToNat, reduceCtorEq, yB, yE, totE]
      refine ⟨⟨true, rfl⟩, Or.inr ⟨false, 0, some m, zeroRow m, e0, by simp only [go_sem, ↓reduceIte, Nat.reduceAdd, Nat.reduceSub, Nat.reduceMul, Nat.reduceLeDiff, Nat.reduceLT, Nat.reduceEqDiff, Int.reduceLT, Int.reduceLE, Int.reduceEq, Int.reduceAdd, Int.reduceNeg, Int.reduceToNat, reduceCtorEq, wantB, totN, tot0, zeroRow_len], by simp only [go_sem, ↓reduceIte, Nat.reduceAdd, Nat.reduceSub, Nat.reduceMul, Nat.reduceLeDiff, Nat.reduceLT, Nat.reduceEqDiff, Int.reduceLT, Int.reduceLE, Int.reduceEq, Int.reduceAdd, Int.reduceNeg, Int.reduceToNat, reduceCtorEq], Or.inl rfl⟩⟩) (by
      clear hx
      rintro i ⟨y, w⟩ st s l ha hd hlt hw ⟨h50, h49, h48, h0, h5, h7, h8, ⟨u, h142⟩, hwant, hnx, hok⟩
      dsimp only at h8 h142 hwant hok
      have hsx := hsl s (List.mem_of_getElem? ha)
      have hil := (List.getElem?_eq_some_iff.1 ha).1
      have hyn := hok.n
      have hylen := hok.cnt
      have hm64 := hok.m64
      have htok := hok.ok
      have htlen := hok.len
      have hwok := okT_v hok.v htok
      have hwx := shares_v hok.v
      have hwlen : w.shares.xs.length = m := by rw [hwx]; exact htlen
      have htry := try_want hok s
      have hsh : shOk y.tot := by unfold shOk; omega
      have k10 := wrong10 s (m : Int) (by omega) (by omega)
      have k13 := try13 y u s (by omega) hsh (by omega) (by omega)
      have w1 : IntKind.i64.wrap ((y.slips.xs.length : Int) + 1) = ((y.slips.xs.length + 1 : Nat) : Int) := by rw [IntKind.wrap_i64]; omega
      have n142 := nxc (c := 142) (n := st.nx) (by omega)
      have n143 := nxc (c := 143) (n := st.nx) (by omega)
      have n144 := nxc (c := 144) (n := st.nx) (by omega)
      obtain ⟨t1, t2, t3⟩ := htry
      rw [t1] at k13
      rcases hwant with ⟨uw, h143⟩ | ⟨uw, md, cp, lw, hwl, h143, h144, hmd⟩
      ·
        by_cases c1 : checkF s (m : Int) = 0
        case neg =>
          have e1 : wantF y w s = checkF s (m : Int) := by unfold wantF; rw [hyn, if_pos c1]
          rw [e1] at t1 k13
          have e2 := t2 (by rw [e1]; exact c1)
          rw [e2] at k13
          have k14 := same14 tot0 tot0 (by simp [tot0, Sl.xs])
          have k15 := post15_bad y u s (by omega) hsh (by omega) (by omega) (by rw [t1]; exact c1)
          rw [t1] at k15
          have k18 := totals18 y u (by omega)
          have k19 := count19 y u
          have k14b := same14_true (a := ownT y.tot) (b := w) (by simp [ownT, cloneS_xs]; omega) ((ownT_v y.tot).trans hok.v.symm)
          clear t2 t3 e1
          simp only [slipE, totE, yB, yE, hyn, tot0, sl_nil] at k10 k13 k14 k15 k18 k19 k14b
          simp only [*, go_sem, ↓reduceIte, Nat.reduceAdd, Nat.reduceSub, Nat.reduceMul, Nat.reduceLeDiff, Nat.reduceLT, Nat.reduceEqDiff, Int.reduceLT, Int.reduceLE, Int.reduceEq, Int.reduceAdd, Int.reduceNeg, Int.reduceToNat, reduceCtorEq, slipE, yB, yE, totE, wantB, tot0, sl_nil]
          exact ⟨(y, w), rfl, ⟨u, by simp only [yB, yE, totE, hyn]⟩, Or.inl ⟨uw, by simp only [*, go_sem, ↓reduceIte, Nat.reduceAdd, Nat.reduceSub, Nat.reduceMul, Nat.reduceLeDiff, Nat.reduceLT, Nat.reduceEqDiff, Int.reduceLT, Int.reduceLE, Int.reduceEq, Int.reduceAdd, Int.reduceNeg, Int.reduceToNat, reduceCtorEq, wantB]⟩, hok.up⟩
        by_cases c2 : s.period = ((y.slips.xs.length + 1 : Nat) : Int)
        case neg =>
          have e1 : wantF y w s = 6 := by unfold wantF; rw [hyn, if_neg (by simpa using c1), if_pos (by omega)]
          rw [e1] at t1 k13
          have e2 := t2 (by rw [e1]; exact (by omega))
          rw [e2] at k13
          have k14 := same14 tot0 tot0 (by simp [tot0, Sl.xs])
          have k15 := post15_bad y u s (by omega) hsh (by omega) (by omega) (by rw [t1]; exact (by omega))
          rw [t1] at k15
          have k18 := totals18 y u (by omega)
          have k19 := count19 y u
          have k14b := same14_true (a := ownT y.tot) (b := w) (by simp [ownT, cloneS_xs]; omega) ((ownT_v y.tot).trans hok.v.symm)
          clear t2 t3 e1
          simp only [slipE, totE, yB, yE, hyn, tot0, sl_nil] at k10 k13 k14 k15 k18 k19 k14b
          replace c2 := eq_false c2
          simp only [*, go_sem, ↓reduceIte, Nat.reduceAdd, Nat.reduceSub, Nat.reduceMul, Nat.reduceLeDiff, Nat.reduceLT, Nat.reduceEqDiff, Int.reduceLT, Int.reduceLE, Int.reduceEq, Int.reduceAdd, Int.reduceNeg, Int.reduceToNat, reduceCtorEq, slipE, yB, yE, totE, wantB, tot0, sl_nil]
          exact ⟨(y, w), rfl, ⟨u, by simp only [yB, yE, totE, hyn]⟩, Or.inl ⟨uw, by simp only [*, go_sem, ↓reduceIte, Nat.reduceAdd, Nat.reduceSub, Nat.reduceMul, Nat.reduceLeDiff, Nat.reduceLT, Nat.reduceEqDiff, Int.reduceLT, Int.reduceLE, Int.reduceEq, Int.reduceAdd, Int.reduceNeg, Int.reduceToNat, reduceCtorEq, wantB]⟩, hok.up⟩
        by_cases c3 : (sumT w s).2 = 0
        case neg =>
          have e1 : wantF y w s = (sumT w s).2 := by unfold wantF; rw [hyn, if_neg (by simpa using c1), if_neg (by omega)]
          rw [e1] at t1 k13
          have e2 := t2 (by rw [e1]; exact c3)
          rw [e2] at k13
          have k14 := same14 tot0 tot0 (by simp [tot0, Sl.xs])
          have k15 := post15_bad y u s (by omega) hsh (by omega) (by omega) (by rw [t1]; exact c3)
          rw [t1] at k15
          have k18 := totals18 y u (by omega)
          have k19 := count19 y u
          have k14b := same14_true (a := ownT y.tot) (b := w) (by simp [ownT, cloneS_xs]; omega) ((ownT_v y.tot).trans hok.v.symm)
          obtain ⟨os, ol, _⟩ := checkF_ok c1
          have k12 := sum12 w s hwok os (by omega) (by omega) (by omega)
          clear os ol
          clear t2 t3 e1
          simp only [slipE, totE, yB, yE, hyn, tot0, sl_nil] at k10 k13 k14 k15 k18 k19 k14b k12
          replace c2 := eq_true c2
          simp only [*, go_sem, ↓reduceIte, Nat.reduceAdd, Nat.reduceSub, Nat.reduceMul, Nat.reduceLeDiff, Nat.reduceLT, Nat.reduceEqDiff, Int.reduceLT, Int.reduceLE, Int.reduceEq, Int.reduceAdd, Int.reduceNeg, Int.reduceToNat, reduceCtorEq, slipE, yB, yE, totE, wantB, tot0, sl_nil]
          exact ⟨(y, w), rfl, ⟨u, by simp only [yB, yE, totE, hyn]⟩, Or.inl ⟨uw, by simp only [*, go_sem, ↓reduceIte, Nat.reduceAdd, Nat.reduceSub, Nat.reduceMul, Nat.reduceLeDiff, Nat.reduceLT, Nat.reduceEqDiff, Int.reduceLT, Int.reduceLE, Int.reduceEq, Int.reduceAdd, Int.reduceNeg, Int.reduceToNat, reduceCtorEq, wantB]⟩, hok.up⟩
        have e1 : wantF y w s = 0 := by unfold wantF; rw [hyn, if_neg (by simpa using c1), if_neg (by omega)]; exact c3
        rw [e1] at t1 k13
        obtain ⟨t31, z1, z2, z3, t35⟩ := t3 e1
        clear z1 z2 z3
        have hY := t35 ⟨by omega, by omega⟩
        have hcnt : (postY y s).slips.xs.length = y.slips.xs.length + 1 := by simp [postY, Sl.xs]
        have hpn := hY.n
        have hpl := hY.len
        have htl : (tryF y s).1.shares.xs.length ≤ 64 := by rw [(tryF_ok t1).1]; exact addT_ok hsh
        have k14 := same14_true (a := (tryF y s).1) (b := (sumT w s).1) (by omega) t31
        have k15 := post15_good y u s (by omega) hsh (by omega) (by omega) t1
        have k16 := slip16_good (postY y s) false y.slips.xs.length (copyS s) (by simp [postY, Sl.xs]) (by omega) hY.lens
        have k17 := same17_true (a := copyS (copyS s)) (b := s) (by simp [copyS, cloneS_xs]; omega) (by simp [copyS, cloneS_xs]; omega) ((copyS_v _).trans (copyS_v s))
        have k18 := totals18 (postY y s) false (by omega)
        have k19 := count19 (postY y s) false
        have k14b := same14_true (a := ownT (postY y s).tot) (b := (sumT w s).1) (by simp [ownT, cloneS_xs]; omega) ((ownT_v _).trans hY.v.symm)
        generalize postY y s = y' at *
        generalize hpB : postB y s = pb at *
        have hpb : cb pb = true := by rw [← hpB]; rfl
        obtain ⟨os, ol, _⟩ := checkF_ok c1
        have k12 := sum12 w s hwok os (by omega) (by omega) (by omega)
        clear os ol
        clear t2 t3 e1
        simp only [slipE, totE, yB, yE, hyn, tot0, sl_nil, hpn, hcnt] at k10 k13 k14 k15 k16 k17 k18 k19 k14b k12
        replace c2 := eq_true c2
        simp only [*, go_sem, ↓reduceIte, Nat.reduceAdd, Nat.reduceSub, Nat.reduceMul, Nat.reduceLeDiff, Nat.reduceLT, Nat.reduceEqDiff, Int.reduceLT, Int.reduceLE, Int.reduceEq, Int.reduceAdd, Int.reduceNeg, Int.reduceToNat, reduceCtorEq, slipE, yB, yE, totE, wantB, tot0, sl_nil]
        all_goals exact ⟨(y', (sumT w s).1), by simp only [hcnt], ⟨false, by simp only [yB, yE, totE, hpn]⟩, Or.inl ⟨uw, by simp only [*, go_sem, ↓reduceIte, Nat.reduceAdd, Nat.reduceSub, Nat.reduceMul, Nat.reduceLeDiff, Nat.reduceLT, Nat.reduceEqDiff, Int.reduceLT, Int.reduceLE, Int.reduceEq, Int.reduceAdd, Int.reduceNeg, Int.reduceToNat, reduceCtorEq, wantB, sl_nil, sl_l]⟩, hY⟩
      ·
        by_cases c1 : checkF s (m : Int) = 0
        case neg =>
          have e1 : wantF y w s = checkF s (m : Int) := by unfold wantF; rw [hyn, if_pos c1]
          rw [e1] at t1 k13
          have e2 := t2 (by rw [e1]; exact c1)
          rw [e2] at k13
          have k14 := same14 tot0 tot0 (by simp [tot0, Sl.xs])
          have k15 := post15_bad y u s (by omega) hsh (by omega) (by omega) (by rw [t1]; exact c1)
          rw [t1] at k15
          have k18 := totals18 y u (by omega)
          have k19 := count19 y u
          have k14b := same14_true (a := ownT y.tot) (b := w) (by simp [ownT, cloneS_xs]; omega) ((ownT_v y.tot).trans hok.v.symm)
          clear t2 t3 e1
          simp only [slipE, totE, yB, yE, hyn, tot0, sl_nil, sl_l, hwl] at k10 k13 k14 k15 k18 k19 k14b
          all_goals rcases hmd with rfl | rfl
          all_goals simp only [*, go_sem, ↓reduceIte, Nat.reduceAdd, Nat.reduceSub, Nat.reduceMul, Nat.reduceLeDiff, Nat.reduceLT, Nat.reduceEqDiff, Int.reduceLT, Int.reduceLE, Int.reduceEq, Int.reduceAdd, Int.reduceNeg, Int.reduceToNat, reduceCtorEq, slipE, yB, yE, totE, wantB, tot0, sl_nil, sl_l, she_take]
          · exact ⟨(y, w), rfl, ⟨u, by simp only [yB, yE, totE, hyn]⟩, Or.inr ⟨uw, 0, cp, lw, hwl, by simp only [*, go_sem, ↓reduceIte, Nat.reduceAdd, Nat.reduceSub, Nat.reduceMul, Nat.reduceLeDiff, Nat.reduceLT, Nat.reduceEqDiff, Int.reduceLT, Int.reduceLE, Int.reduceEq, Int.reduceAdd, Int.reduceNeg, Int.reduceToNat, reduceCtorEq, wantB], by simp only [*, go_sem, ↓reduceIte, Nat.reduceAdd, Nat.reduceSub, Nat.reduceMul, Nat.reduceLeDiff, Nat.reduceLT, Nat.reduceEqDiff, Int.reduceLT, Int.reduceLE, Int.reduceEq, Int.reduceAdd, Int.reduceNeg, Int.reduceToNat, reduceCtorEq], Or.inl rfl⟩, hok.up⟩
          · exact ⟨(y, w), rfl, ⟨u, by simp only [yB, yE, totE, hyn]⟩, Or.inr ⟨uw, 1, cp, lw, hwl, by simp only [*, go_sem, ↓reduceIte, Nat.reduceAdd, Nat.reduceSub, Nat.reduceMul, Nat.reduceLeDiff, Nat.reduceLT, Nat.reduceEqDiff, Int.reduceLT, Int.reduceLE, Int.reduceEq, Int.reduceAdd, Int.reduceNeg, Int.reduceToNat, reduceCtorEq, wantB], by simp only [*, go_sem, ↓reduceIte, Nat.reduceAdd, Nat.reduceSub, Nat.reduceMul, Nat.reduceLeDiff, Nat.reduceLT, Nat.reduceEqDiff, Int.reduceLT, Int.reduceLE, Int.reduceEq, Int.reduceAdd, Int.reduceNeg, Int.reduceToNat, reduceCtorEq], Or.inr rfl⟩, hok.up⟩
        by_cases c2 : s.period = ((y.slips.xs.length + 1 : Nat) : Int)
        case neg =>
          have e1 : wantF y w s = 6 := by unfold wantF; rw [hyn, if_neg (by simpa using c1), if_pos (by omega)]
          rw [e1] at t1 k13
          have e2 := t2 (by rw [e1]; exact (by omega))
          rw [e2] at k13
          have k14 := same14 tot0 tot0 (by simp [tot0, Sl.xs])
          have k15 := post15_bad y u s (by omega) hsh (by omega) (by omega) (by rw [t1]; exact (by omega))
          rw [t1] at k15
          have k18 := totals18 y u (by omega)
          have k19 := count19 y u
          have k14b := same14_true (a := ownT y.tot) (b := w) (by simp [ownT, cloneS_xs]; omega) ((ownT_v y.tot).trans hok.v.symm)
          clear t2 t3 e1
          simp only [slipE, totE, yB, yE, hyn, tot0, sl_nil, sl_l, hwl] at k10 k13 k14 k15 k18 k19 k14b
          replace c2 := eq_false c2
          all_goals rcases hmd with rfl | rfl
          all_goals simp only [*, go_sem, ↓reduceIte, Nat.reduceAdd, Nat.reduceSub, Nat.reduceMul, Nat.reduceLeDiff, Nat.reduceLT, Nat.reduceEqDiff, Int.reduceLT, Int.reduceLE, Int.reduceEq, Int.reduceAdd, Int.reduceNeg, Int.reduceToNat, reduceCtorEq, slipE, yB, yE, totE, wantB, tot0, sl_nil, sl_l, she_take]
          · exact ⟨(y, w), rfl, ⟨u, by simp only [yB, yE, totE, hyn]⟩, Or.inr ⟨uw, 0, cp, lw, hwl, by simp only [*, go_sem, ↓reduceIte, Nat.reduceAdd, Nat.reduceSub, Nat.reduceMul, Nat.reduceLeDiff, Nat.reduceLT, Nat.reduceEqDiff, Int.reduceLT, Int.reduceLE, Int.reduceEq, Int.reduceAdd, Int.reduceNeg, Int.reduceToNat, reduceCtorEq, wantB], by simp only [*, go_sem, ↓reduceIte, Nat.reduceAdd, Nat.reduceSub, Nat.reduceMul, Nat.reduceLeDiff, Nat.reduceLT, Nat.reduceEqDiff, Int.reduceLT, Int.reduceLE, Int.reduceEq, Int.reduceAdd, Int.reduceNeg, Int.reduceToNat, reduceCtorEq], Or.inl rfl⟩, hok.up⟩
          · exact ⟨(y, w), rfl, ⟨u, by simp only [yB, yE, totE, hyn]⟩, Or.inr ⟨uw, 1, cp, lw, hwl, by simp only [*, go_sem, ↓reduceIte, Nat.reduceAdd, Nat.reduceSub, Nat.reduceMul, Nat.reduceLeDiff, Nat.reduceLT, Nat.reduceEqDiff, Int.reduceLT, Int.reduceLE, Int.reduceEq, Int.reduceAdd, Int.reduceNeg, Int.reduceToNat, reduceCtorEq, wantB], by simp only [*, go_sem, ↓reduceIte, Nat.reduceAdd, Nat.reduceSub, Nat.reduceMul, Nat.reduceLeDiff, Nat.reduceLT, Nat.reduceEqDiff, Int.reduceLT, Int.reduceLE, Int.reduceEq, Int.reduceAdd, Int.reduceNeg, Int.reduceToNat, reduceCtorEq], Or.inr rfl⟩, hok.up⟩
        by_cases c3 : (sumT w s).2 = 0
        case neg =>
          have e1 : wantF y w s = (sumT w s).2 := by unfold wantF; rw [hyn, if_neg (by simpa using c1), if_neg (by omega)]
          rw [e1] at t1 k13
          have e2 := t2 (by rw [e1]; exact c3)
          rw [e2] at k13
          have k14 := same14 tot0 tot0 (by simp [tot0, Sl.xs])
          have k15 := post15_bad y u s (by omega) hsh (by omega) (by omega) (by rw [t1]; exact c3)
          rw [t1] at k15
          have k18 := totals18 y u (by omega)
          have k19 := count19 y u
          have k14b := same14_true (a := ownT y.tot) (b := w) (by simp [ownT, cloneS_xs]; omega) ((ownT_v y.tot).trans hok.v.symm)
          obtain ⟨os, ol, _⟩ := checkF_ok c1
          have k12 := sum12 w s hwok os (by omega) (by omega) (by omega)
          clear os ol
          clear t2 t3 e1
          have hq : (sumT w s).1.shares = .l none lw := by rw [sumT_bad c3, hwl]
          simp only [slipE, totE, yB, yE, hyn, tot0, sl_nil, sl_l, hwl, hq] at k10 k13 k14 k15 k18 k19 k14b k12
          replace c2 := eq_true c2
          all_goals rcases hmd with rfl | rfl
          all_goals simp only [*, go_sem, ↓reduceIte, Nat.reduceAdd, Nat.reduceSub, Nat.reduceMul, Nat.reduceLeDiff, Nat.reduceLT, Nat.reduceEqDiff, Int.reduceLT, Int.reduceLE, Int.reduceEq, Int.reduceAdd, Int.reduceNeg, Int.reduceToNat, reduceCtorEq, slipE, yB, yE, totE, wantB, tot0, sl_nil, sl_l, she_take]
          · exact ⟨(y, w), rfl, ⟨u, by simp only [yB, yE, totE, hyn]⟩, Or.inr ⟨uw, 1, cp, lw, hwl, by simp only [*, go_sem, ↓reduceIte, Nat.reduceAdd, Nat.reduceSub, Nat.reduceMul, Nat.reduceLeDiff, Nat.reduceLT, Nat.reduceEqDiff, Int.reduceLT, Int.reduceLE, Int.reduceEq, Int.reduceAdd, Int.reduceNeg, Int.reduceToNat, reduceCtorEq, wantB], by simp only [*, go_sem, ↓reduceIte, Nat.reduceAdd, Nat.reduceSub, Nat.reduceMul, Nat.reduceLeDiff, Nat.reduceLT, Nat.reduceEqDiff, Int.reduceLT, Int.reduceLE, Int.reduceEq, Int.reduceAdd, Int.reduceNeg, Int.reduceToNat, reduceCtorEq], Or.inr rfl⟩, hok.up⟩
          · exact ⟨(y, w), rfl, ⟨u, by simp only [yB, yE, totE, hyn]⟩, Or.inr ⟨uw, 1, cp, lw, hwl, by simp only [*, go_sem, ↓reduceIte, Nat.reduceAdd, Nat.reduceSub, Nat.reduceMul, Nat.reduceLeDiff, Nat.reduceLT, Nat.reduceEqDiff, Int.reduceLT, Int.reduceLE, Int.reduceEq, Int.reduceAdd, Int.reduceNeg, Int.reduceToNat, reduceCtorEq, wantB], by simp only [*, go_sem, ↓reduceIte, Nat.reduceAdd, Nat.reduceSub, Nat.reduceMul, Nat.reduceLeDiff, Nat.reduceLT, Nat.reduceEqDiff, Int.reduceLT, Int.reduceLE, Int.reduceEq, Int.reduceAdd, Int.reduceNeg, Int.reduceToNat, reduceCtorEq], Or.inr rfl⟩, hok.up⟩
        have e1 : wantF y w s = 0 := by unfold wantF; rw [hyn, if_neg (by simpa using c1), if_neg (by omega)]; exact c3
        rw [e1] at t1 k13
        obtain ⟨t31, z1, z2, z3, t35⟩ := t3 e1
        clear z1 z2 z3
        have hY := t35 ⟨by omega, by omega⟩
        have hcnt : (postY y s).slips.xs.length = y.slips.xs.length + 1 := by simp [postY, Sl.xs]
        have hpn := hY.n
        have hpl := hY.len
        have htl : (tryF y s).1.shares.xs.length ≤ 64 := by rw [(tryF_ok t1).1]; exact addT_ok hsh
        have k14 := same14_true (a := (tryF y s).1) (b := (sumT w s).1) (by omega) t31
        have k15 := post15_good y u s (by omega) hsh (by omega) (by omega) t1
        have k16 := slip16_good (postY y s) false y.slips.xs.length (copyS s) (by simp [postY, Sl.xs]) (by omega) hY.lens
        have k17 := same17_true (a := copyS (copyS s)) (b := s) (by simp [copyS, cloneS_xs]; omega) (by simp [copyS, cloneS_xs]; omega) ((copyS_v _).trans (copyS_v s))
        have k18 := totals18 (postY y s) false (by omega)
        have k19 := count19 (postY y s) false
        have k14b := same14_true (a := ownT (postY y s).tot) (b := (sumT w s).1) (by simp [ownT, cloneS_xs]; omega) ((ownT_v _).trans hY.v.symm)
        generalize postY y s = y' at *
        generalize hpB : postB y s = pb at *
        have hpb : cb pb = true := by rw [← hpB]; rfl
        obtain ⟨os, ol, _⟩ := checkF_ok c1
        have k12 := sum12 w s hwok os (by omega) (by omega) (by omega)
        clear os ol
        clear t2 t3 e1
        rcases hq : (sumT w s).1.shares with _ | ⟨c5, l5⟩
        all_goals simp only [slipE, totE, yB, yE, hyn, tot0, sl_nil, sl_l, hwl, hpn, hcnt, hq] at k10 k13 k14 k15 k16 k17 k18 k19 k14b k12
        all_goals replace c2 := eq_true c2
        all_goals rcases hmd with rfl | rfl
        all_goals simp only [*, go_sem, ↓reduceIte, Nat.reduceAdd, Nat.reduceSub, Nat.reduceMul, Nat.reduceLeDiff, Nat.reduceLT, Nat.reduceEqDiff, Int.reduceLT, Int.reduceLE, Int.reduceEq, Int.reduceAdd, Int.reduceNeg, Int.reduceToNat, reduceCtorEq, slipE, yB, yE, totE, wantB, tot0, sl_nil, sl_l, she_take]
        all_goals exact ⟨(y', (sumT w s).1), by simp only [hcnt], ⟨false, by simp only [yB, yE, totE, hpn]⟩, Or.inl ⟨uw, by simp only [*, go_sem, ↓reduceIte, Nat.reduceAdd, Nat.reduceSub, Nat.reduceMul, Nat.reduceLeDiff, Nat.reduceLT, Nat.reduceEqDiff, Int.reduceLT, Int.reduceLE, Int.reduceEq, Int.reduceAdd, Int.reduceNeg, Int.reduceToNat, reduceCtorEq, wantB, sl_nil, sl_l]⟩, hY⟩)
    (by
      clear hx
      rintro ⟨y, w⟩ st ⟨h50, h49, h48, h0, h5, h7, h8, _, _, _, _⟩
      simp only [*, go_sem, ↓reduceIte, Nat.reduceAdd, Nat.reduceSub, Nat.reduceMul, Nat.reduceLeDiff, Nat.reduceLT, Nat.reduceEqDiff, Int.reduceLT, Int.reduceLE, Int.reduceEq, Int.reduceAdd, Int.reduceNeg, Int.reduceToNat, reduceCtorEq, Int.lt_irrefl])
  clear hx
  subst hp
  simp only [*, go_sem, ↓reduceIte, Nat.reduceAdd, Nat.reduceSub, Nat.reduceMul, Nat.reduceLeDiff, Nat.reduceLT, Nat.reduceEqDiff, Int.reduceLT, Int.reduceLE, Int.reduceEq, Int.reduceAdd, Int.reduceNeg, Int.reduceToNat, reduceCtorEq]

end Go.Proofs.Ytjkojcnimnhclaa
end

/-
  The statements' arguments, as payslips and numbers.
-/
namespace Go.Proofs.Ytjkojcnimnhclaa
open Go Vm

theorem fit2 {n : Nat} {ds : List D} (h : Fit Try.prog (n + 1) 2 ds) : ∃ x, ds = [.s (.int .i64 x)] := by
  obtain ⟨x, hx, _⟩ := fit_int Try.underlying2 h
  exact ⟨x, hx⟩
theorem fit54 {n : Nat} {ds : List D} (h : Fit Try.prog (n + 2) 54 ds) : ∃ a : Sh, ds = she a ∧ True := by
  obtain ⟨p1, q1, rfl, h1, h⟩ := fitL_cons (fit_struct Try.underlying54 h)
  obtain ⟨p2, q2, rfl, h2, h⟩ := fitL_cons h
  cases fitL_nil h
  obtain ⟨x1, rfl⟩ := fit2 h1
  obtain ⟨x2, rfl⟩ := fit2 h2
  exact ⟨⟨x1, x2⟩, rfl, trivial⟩
theorem fit59 {n : Nat} {ds : List D} (h : Fit Try.prog (n + 2) 59 ds) : ∃ a : Tk, ds = te a ∧ True := by
  obtain ⟨p1, q1, rfl, h1, h⟩ := fitL_cons (fit_struct Try.underlying59 h)
  obtain ⟨p2, q2, rfl, h2, h⟩ := fitL_cons h
  obtain ⟨p3, q3, rfl, h3, h⟩ := fitL_cons h
  obtain ⟨p4, q4, rfl, h4, h⟩ := fitL_cons h
  obtain ⟨p5, q5, rfl, h5, h⟩ := fitL_cons h
  obtain ⟨p6, q6, rfl, h6, h⟩ := fitL_cons h
  cases fitL_nil h
  obtain ⟨x1, rfl, _⟩ := fit_int Try.underlying3 h1
  obtain ⟨x2, rfl⟩ := fit2 h2
  obtain ⟨x3, rfl⟩ := fit2 h3
  obtain ⟨x4, rfl⟩ := fit2 h4
  obtain ⟨x5, rfl⟩ := fit2 h5
  obtain ⟨x6, rfl⟩ := fit2 h6
  exact ⟨⟨x1, x2, x3, x4, x5, x6⟩, rfl, trivial⟩
def lenOk (s : Slip) : Prop := s.shares.xs.length < 9223372036854775808 ∧ s.taken.xs.length < 9223372036854775808
theorem fit27 {n : Nat} {ds : List D} (h : Fit Try.prog (n + 5) 27 ds) : ∃ s : Slip, ds = slipE s ∧ lenOk s := by
  obtain ⟨p1, q1, rfl, h1, h⟩ := fitL_cons (fit_struct Try.underlying27 h)
  obtain ⟨p2, q2, rfl, h2, h⟩ := fitL_cons h
  obtain ⟨p3, q3, rfl, h3, h⟩ := fitL_cons h
  obtain ⟨p4, q4, rfl, h4, h⟩ := fitL_cons h
  obtain ⟨p5, q5, rfl, h5, h⟩ := fitL_cons h
  obtain ⟨p6, q6, rfl, h6, h⟩ := fitL_cons h
  obtain ⟨p7, q7, rfl, h7, h⟩ := fitL_cons h
  obtain ⟨p8, q8, rfl, h8, h⟩ := fitL_cons h
  cases fitL_nil h
  obtain ⟨x1, rfl, _⟩ := fit_int Try.underlying3 h1
  obtain ⟨b1, c1, rfl, g1, h2⟩ := fitL_cons (fit_struct Try.underlying23 h2)
  obtain ⟨b2, c2, rfl, g2, h2⟩ := fitL_cons h2
  obtain ⟨b3, c3, rfl, g3, h2⟩ := fitL_cons h2
  cases fitL_nil h2
  obtain ⟨y1, rfl⟩ := fit2 g1
  obtain ⟨y2, rfl⟩ := fit2 g2
  obtain ⟨y3, rfl⟩ := fit2 g3
  obtain ⟨x3, rfl⟩ := fit2 h3
  obtain ⟨x4, rfl⟩ := fit2 h4
  obtain ⟨x5, rfl, l5, _⟩ := fit_sl Try.underlying24 (fun x hx => fit54 hx) h5
  obtain ⟨x6, rfl⟩ := fit2 h6
  obtain ⟨x7, rfl, l7, _⟩ := fit_sl Try.underlying25 (fun x hx => fit59 hx) h7
  obtain ⟨x8, rfl⟩ := fit2 h8
  exact ⟨⟨x1, y1, y2, y3, x3, x4, x5, x6, x7, x8⟩, rfl, maxLen_lt l5, maxLen_lt l7⟩

end Go.Proofs.Ytjkojcnimnhclaa
