/-
  Texts that the last one of this claim leans on (part 4).
-/
import Derived.Test.YtjkojcnimnhclaaJc

section
/-
  The second statement's run: payslip by payslip.
-/
namespace Go.Proofs.Ytjkojcnimnhclaa
open Go Vm
set_option maxRecDepth 4000
set_option linter.unusedSimpArgs false
set_option linter.unusedVariables false

/-- The error of a payslip that is to be posted: by definition. -/
def wantF (y : Yr) (w : Tot) (s : Slip) : Int := if ¬ checkF s y.n = 0 then checkF s y.n else if ¬ s.period = (y.slips.xs.length : Int) + 1 then 6 else (sumT w s).2

/-- What holds between a year and what is wanted of it. -/
structure YOk (y : Yr) (w : Tot) (m i : Nat) : Prop where
  n : y.n = (m : Int)
  m64 : m ≤ 64
  v : w.v = y.tot.v
  ok : okT y.tot
  len : y.tot.shares.xs.length = m
  cnt : y.slips.xs.length ≤ i
  lens : lensOk y.slips.xs
theorem okT_v {t w : Tot} (hv : w.v = t.v) (h : okT t) : okT w := by
  simp only [Tot.v, TotV.mk.injEq] at hv
  obtain ⟨v1, v2, v3, v4, v5, v6, v7, v8, v9⟩ := hv
  simp only [okT, v1, v2, v3, v4, v6, v7, v8, v9]
  exact h
theorem shares_v {t w : Tot} (hv : w.v = t.v) : w.shares.xs = t.shares.xs := by
  simp only [Tot.v, TotV.mk.injEq] at hv
  exact hv.2.2.2.2.2.1

theorem try_want {y : Yr} {w : Tot} {m i : Nat} (h : YOk y w m i) (s : Slip) : (tryF y s).2 = wantF y w s ∧ (¬ wantF y w s = 0 → (tryF y s).1 = tot0) ∧
    (wantF y w s = 0 → (tryF y s).1.v = (sumT w s).1.v ∧ checkF s y.n = 0 ∧ s.period = (y.slips.xs.length : Int) + 1 ∧ (sumT w s).2 = 0 ∧ (s.shares.xs.length ≤ 1000000 ∧ s.taken.xs.length ≤ 1000000 → YOk (postY y s) (sumT w s).1 m (i + 1))) := by
  unfold tryF wantF
  by_cases c1 : checkF s y.n = 0
  case neg => simp [c1]
  by_cases c2 : s.period = (y.slips.xs.length : Int) + 1
  case neg => simp [c1, c2]
  obtain ⟨hs, hl, htk, hk, _⟩ := checkF_ok c1
  have hl2 : s.shares.xs.length = y.tot.shares.xs.length := by rw [h.len]; rw [h.n] at hl; omega
  obtain ⟨k1, k2⟩ := sum_add h.v h.ok hs htk hk hl2
  by_cases c3 : (addT y.tot s).2 = 0
  case neg => simp [c1, c2, c3, k1]
  obtain ⟨k3, k4, k5⟩ := k2 c3
  rw [k1]
  simp only [c1, c2, c3, not_true_eq_false, if_false, false_imp_iff, true_and, true_imp_iff, k3.symm]
  intro hln
  refine ⟨h.n, h.m64, k3, k4, k5.trans h.len, ?_, ?_⟩
  · simp only [postY, Sl.xs_l, List.length_append, List.length_cons, List.length_nil]; have := h.cnt; omega
  · intro z hz
    simp only [postY, Sl.xs_l, List.mem_append, List.mem_singleton] at hz
    rcases hz with hz | rfl
    · exact h.lens z hz
    · simpa [copyS, cloneS_xs] using hln

/-- Where the wanted totals stand: their shares may be a row of the run's own. -/
def wantB (w : Tot) (u : Bool) (d : D) : Blk := ⟨[[.s (.int .i64 w.cash), .s (.int .i64 w.taxable), .s (.int .i64 w.social), .s (.int .i64 w.tax), .s (.int .i64 w.shortfall), d, .s (.int .i64 w.net), .s (.int .i64 w.taken), .s (.int .i64 w.pay)]], false, 0, u, none⟩
def wantI (hp : List (Nat × Blk)) (w : Tot) : Prop := ∃ u, rdH hp 143 = wantB w u (w.shares.d she)
def wantA (hp : List (Nat × Blk)) (w : Tot) : Prop := ∃ u md cp l, w.shares = .l none l ∧ rdH hp 143 = wantB w u (.a 144 0 l.length 2) ∧ rdH hp 144 = ⟨l.map she, true, md, true, cp⟩ ∧ (md = 0 ∨ md = 1)

theorem ownT_v (t : Tot) : (ownT t).v = t.v := by simp [ownT, Tot.v, cloneS_xs]
theorem copyS_v (s : Slip) : (copyS s).v = s.v := by simp [copyS, Slip.v, cloneS_xs]
theorem same14_true {a b : Tot} (h1 : a.shares.xs.length < 9223372036854775808) (h : a.v = b.v) : callI Try.prog cfg 14 [.g (totE a), .g (totE b)] [] = some ([.s (.bool true)], []) := by
  rw [same14 a b h1]; simp [h]
theorem same17_true {a b : Slip} (h1 : a.shares.xs.length < 9223372036854775808) (h2 : a.taken.xs.length < 9223372036854775808) (h : a.v = b.v) : callI Try.prog cfg 17 [.g (slipE a), .g (slipE b)] [] = some ([.s (.bool true)], []) := by
  rw [same17 a b h1 h2]; simp [h]
theorem YOk.up {y : Yr} {w : Tot} {m i : Nat} (h : YOk y w m i) : YOk y w m (i + 1) := ⟨h.n, h.m64, h.v, h.ok, h.len, by have := h.cnt; omega, h.lens⟩
theorem sumT_bad {w : Tot} {s : Slip} (h : ¬ (sumT w s).2 = 0) : (sumT w s).1 = w := by
  unfold sumT at h ⊢
  split
  · rename_i h1; rw [if_pos h1] at h; exact absurd rfl h
  · rfl
theorem she_take (l : List Sh) : List.take l.length (l.map she) = l.map she := by rw [List.take_of_length_le (by simp)]
set_option maxHeartbeats 2000000 in
theorem posts4 (n : Int) (xs : Sl Slip) (hlen : xs.xs.length < 9223372036854775808) : callI Try.prog cfg 4 [.s (.int .i64 n), xs.d slipE] [] = some ([.s (.bool true)], []) := by
  rw [callI_eq Try.func4 rfl rfl]
  cases hsm : smallF xs.xs with
  | false => simp only [Try.f4, *, go_sem, ↓reduceIte, Nat.reduceAdd, Nat.reduceSub, Nat.reduceMul, Nat.reduceLeDiff, Nat.reduceLT, Nat.reduceEqDiff, Int.reduceLT, Int.reduceLE, Int.reduceEq, Int.reduceAdd, Int.reduceNeg, Int.reduceToNat, reduceCtorEq]
  | true =>
  have hnew := new11 n
  by_cases h1 : n < 0
  · rw [if_pos (Or.inl h1)] at hnew
    simp only [Try.f4, *, go_sem, ↓reduceIte, Nat.reduceAdd, Nat.reduceSub, Nat.reduceMul, Nat.reduceLeDiff, Nat.reduceLT, Nat.reduceEqDiff, Int.reduceLT, Int.reduceLE, Int.reduceEq, Int.reduceAdd, Int.reduceNeg, Int.reduceToNat, reduceCtorEq]
  by_cases h2 : 64 < n
  · rw [if_pos (Or.inr h2)] at hnew
    simp only [Try.f4, *, go_sem, ↓reduceIte, Nat.reduceAdd, Nat.reduceSub, Nat.reduceMul, Nat.reduceLeDiff, Nat.reduceLT, Nat.reduceEqDiff, Int.reduceLT, Int.reduceLE, Int.reduceEq, Int.reduceAdd, Int.reduceNeg, Int.reduceToNat, reduceCtorEq]
  rw [if_neg (by omega)] at hnew
  obtain ⟨m, rfl⟩ := Int.eq_ofNat_of_zero_le (by omega : 0 ≤ n)
  have h3 : m * 16 ≤ 140737488355328 := by omega
  have h4 : m ≤ 140737488355328 := by omega
  simp only [yB, yE, totE] at hnew
  simp only [Try.f4, *, go_sem, ↓reduceIte, Nat.reduceAdd, Nat.reduceSub, Nat.reduceMul, Nat.reduceLeDiff, Nat.reduceLT, Nat.reduceEqDiff, Int.reduceLT, Int.reduceLE, Int.reduceEq, Int.reduceAdd, Int.reduceNeg, Int.reduceToNat, reduceCtorEq, zeroRow_map]
  generalize hx : exe _ _ _ (.loop _) _ = r
  have hsl : ∀ s ∈ xs.xs, s.shares.xs.length ≤ 30 ∧ s.taken.xs.length ≤ 30 := by
    intro s hs
    simp only [smallF, Bool.and_eq_true] at hsm
    have := List.all_eq_true.1 hsm.1 s hs
    simpa [smallS] using this
  have h60 : xs.xs.length ≤ 60 := by
    simp only [smallF, Bool.and_eq_true] at hsm
    simpa using hsm.2
  clear hnew hsm
  obtain ⟨z, s1, rfl, hp⟩ := list_use hx (head0 _ _) xs.xs hlen
    (fun i (b : Yr × Tot) st => rdT st.tm 50 = .s (.int .i64 (i : Int)) ∧ rdT st.tm 49 = .s (.int .i64 (xs.xs.length : Int)) ∧ rdT st.tm 48 = xs.d slipE ∧ rdT st.tm 0 = .s (.int .i64 (m : Int)) ∧ rdT st.tm 5 = .p 142 0 0 ∧ rdT st.tm 7 = .p 143 0 0 ∧ rdT st.tm 8 = .s (.int .i64 (b.1.slips.xs.length : Int)) ∧
      (∃ u, rdH st.hp 142 = yB u b.1) ∧ (wantI st.hp b.2 ∨ wantA st.hp b.2) ∧ 144 < st.nx ∧ YOk b.1 b.2 m i)
    (fun _ _ => ()) (fun _ ex st2 => ex = .exit 0) (⟨(m : Int), .nil, totN m⟩, totN m)
    (by
      have e0 : (totN (m : Int)).shares = .l none (zeroRow m) := by simp [totN]
      have hy0 : YOk ⟨(m : Int), .nil, totN m⟩ (totN m) m 0 := by
        refine ⟨rfl, by omega, rfl, ?_, by rw [e0, Sl.xs_l, zeroRow_len], by simp [Sl.xs], by simp [lensOk, Sl.xs]⟩
        refine ⟨ok0, ok0, ok0, ok0, ok0, ok0, ok0, ?_⟩
        rw [e0, Sl.xs_l]
        intro x hx
        have := List.eq_of_mem_replicate hx
        rw [this]
        exact ⟨ok0, ok0⟩
      simp only [*, go_sem, ↓reduceIte, Nat.reduceAdd, Nat.reduceSub, Nat.reduceMul, Nat.reduceLeDiff, Nat.reduceLT, Nat.reduceEqDiff, Int.reduceLT, Int.reduceLE, Int.reduceEq, Int.reduceAdd, Int.reduceNeg, Int.reduceToNat, reduceCtorEq, yB, yE, totE]
      refine ⟨⟨true, rfl⟩, Or.inr ⟨false, 0, some m, zeroRow m, e0, by simp only [go_sem, ↓reduceIte, Nat.reduceAdd, Nat.reduceSub, Nat.reduceMul, Nat.reduceLeDiff, Nat.reduceLT, Nat.reduceEqDiff, Int.reduceLT, Int.reduceLE, Int.reduceEq, Int.reduceAdd, Int.reduceNeg, Int.reduceToNat, reduceCtorEq, wantB, totN, tot0, zeroRow_len], by simp only [go_sem, ↓reduceIte, Nat.reduceAdd, Nat.reduceSub, Nat.reduceMul, Nat.reduceLeDiff, Nat.reduceLT, Nat.reduceEqDiff, Int.reduceLT, Int.reduceLE, Int.reduceEq, Int.reduceAdd, Int.reduceNeg, Int.reduceToNat, reduceCtorEq], Or.inl rfl⟩⟩) (by
      clear hx
      rintro i ⟨y, w⟩ st s l ha hd hlt hw ⟨h50, h49, h48, h0, h5, h7, h8, ⟨u, h142⟩, hwant, hnx, hok⟩
      dsimp only at h8 h142 hwant hok
      have hsx := hsl s (List.mem_of_getElem? ha)
      have hil := (List.getElem?_eq_some_iff.1 ha).1
      have hyn := hok.n
      have hylen := hok.cnt
      have hm64 := hok.m64
      have htok := hok.ok
      have htlen := hok.len
      have hwok := okT_v hok.v htok
      have hwx := shares_v hok.v
      have hwlen : w.shares.xs.length = m := by rw [hwx]; exact htlen
      have htry := try_want hok s
      have hsh : shOk y.tot := by unfold shOk; omega
      have k10 := wrong10 s (m : Int) (by omega) (by omega)
      have k13 := try13 y u s (by omega) hsh (by omega) (by omega)
      have w1 : IntKind.i64.wrap ((y.slips.xs.length : Int) + 1) = ((y.slips.xs.length + 1 : Nat) : Int) := by rw [IntKind.wrap_i64]; omega
      have n142 := nxc (c := 142) (n := st.nx) (by omega)
      have n143 := nxc (c := 143) (n := st.nx) (by omega)
      have n144 := nxc (c := 144) (n := st.nx) (by omega)
      obtain ⟨t1, t2, t3⟩ := htry
      rw [t1] at k13
      rcases hwant with ⟨uw, h143⟩ | ⟨uw, md, cp, lw, hwl, h143, h144, hmd⟩
      ·
        by_cases c1 : checkF s (m : Int) = 0
        case neg =>
          have e1 : wantF y w s = checkF s (m : Int) := by unfold wantF; rw [hyn, if_pos c1]
          rw [e1] at t1 k13
          have e2 := t2 (by rw [e1]; exact c1)
          rw [e2] at k13
          have k14 := same14 tot0 tot0 (by simp [tot0, Sl.xs])
          have k15 := post15_bad y u s (by omega) hsh (by omega) (by omega) (by rw [t1]; exact c1)
          rw [t1] at k15
          have k18 := totals18 y u (by omega)
          have k19 := count19 y u
          have k14b := same14_true (a := ownT y.tot) (b := w) (by simp [ownT, cloneS_xs]; omega) ((ownT_v y.tot).trans hok.v.symm)
          clear t2 t3 e1
          simp only [slipE, totE, yB, yE, hyn, tot0, sl_nil] at k10 k13 k14 k15 k18 k19 k14b
          simp only [*, go_sem, ↓reduceIte, Nat.reduceAdd, Nat.reduceSub, Nat.reduceMul, Nat.reduceLeDiff, Nat.reduceLT, Nat.reduceEqDiff, Int.reduceLT, Int.reduceLE, Int.reduceEq, Int.reduceAdd, Int.reduceNeg, Int.reduceToNat, reduceCtorEq, slipE, yB, yE, totE, wantB, tot0, sl_nil]
          exact ⟨(y, w), rfl, ⟨u, by simp only [yB, yE, totE, hyn]⟩, Or.inl ⟨uw, by simp only [*, go_sem, ↓reduceIte, Nat.reduceAdd, Nat.reduceSub, Nat.reduceMul, Nat.reduceLeDiff, Nat.reduceLT, Nat.reduceEqDiff, Int.reduceLT, Int.reduceLE, Int.reduceEq, Int.reduceAdd, Int.reduceNeg, Int.reduceToNat, reduceCtorEq, wantB]⟩, hok.up⟩
        by_cases c2 : s.period = ((y.slips.xs.length + 1 : Nat) : Int)
        case neg =>
          have e1 : wantF y w s = 6 := by unfold wantF; rw [hyn, if_neg (by simpa using c1), if_pos (by omega)]
          rw [e1] at t1 k13
          have e2 := t2 (by rw [e1]; exact (by omega))
          rw [e2] at k13
          have k14 := same14 tot0 tot0 (by simp [tot0, Sl.xs])
          have k15 := post15_bad y u s (by omega) hsh (by omega) (by omega) (by rw [t1]; exact (by omega))
          rw [t1] at k15
          have k18 := totals18 y u (by omega)
          have k19 := count19 y u
          have k14b := same14_true (a := ownT y.tot) (b := w) (by simp [ownT, cloneS_xs]; omega) ((ownT_v y.tot).trans hok.v.symm)
          clear t2 t3 e1
          simp only [slipE, totE, yB, yE, hyn, tot0, sl_nil] at k10 k13 k14 k15 k18 k19 k14b
          replace c2 := eq_false c2
          simp only [*, go_sem, ↓reduceIte, Nat.reduceAdd, Nat.reduceSub, Nat.reduceMul, Nat.reduceLeDiff, Nat.reduceLT, Nat.reduceEqDiff, Int.reduceLT, Int.reduceLE, Int.reduceEq, Int.reduceAdd, Int.reduceNeg, Int.reduceToNat, reduceCtorEq, slipE, yB, yE, totE, wantB, tot0, sl_nil]
          exact ⟨(y, w), rfl, ⟨u, by simp only [yB, yE, totE, hyn]⟩, Or.inl ⟨uw, by simp only [*, go_sem, ↓reduceIte, Nat.reduceAdd, Nat.reduceSub, Nat.reduceMul, Nat.reduceLeDiff, Nat.reduceLT, Nat.reduceEqDiff, Int.reduceLT, Int.reduceLE, Int.reduceEq, Int.reduceAdd, Int.reduceNeg, Int.reduceToNat, reduceCtorEq, wantB]⟩, hok.up⟩
        by_cases c3 : (sumT w s).2 = 0
        case neg =>
          have e1 : wantF y w s = (sumT w s).2 := by unfold wantF; rw [hyn, if_neg (by simpa using c1), if_neg (by omega)]
          rw [e1] at t1 k13
          have e2 := t2 (by rw [e1]; exact c3)
          rw [e2] at k13
          have k14 := same14 tot0 tot0 (by simp [tot0, Sl.xs])
          have k15 := post15_bad y u s (by omega) hsh (by omega) (by omega) (by rw [t1]; exact c3)
          rw [t1] at k15
          have k18 := totals18 y u (by omega)
          have k19 := count19 y u
          have k14b := same14_true (a := ownT y.tot) (b := w) (by simp [ownT, cloneS_xs]; omega) ((ownT_v y.tot).trans hok.v.symm)
          obtain ⟨os, ol, _⟩ := checkF_ok c1
          have k12 := sum12 w s hwok os (by omega) (by omega) (by omega)
          clear os ol
          clear t2 t3 e1
          simp only [slipE, totE, yB, yE, hyn, tot0, sl_nil] at k10 k13 k14 k15 k18 k19 k14b k12
          replace c2 := eq_true c2
          simp only [*, go_sem, ↓reduceIte, Nat.reduceAdd, Nat.reduceSub, Nat.reduceMul, Nat.reduceLeDiff, Nat.reduceLT, Nat.reduceEqDiff, Int.reduceLT, Int.reduceLE, Int.reduceEq, Int.reduceAdd, Int.reduceNeg, Int.reduceToNat, reduceCtorEq, slipE, yB, yE, totE, wantB, tot0, sl_nil]
          exact ⟨(y, w), rfl, ⟨u, by simp only [yB, yE, totE, hyn]⟩, Or.inl ⟨uw, by simp only [*, go_sem, ↓reduceIte, Nat.reduceAdd, Nat.reduceSub, Nat.reduceMul, Nat.reduceLeDiff, Nat.reduceLT, Nat.reduceEqDiff, Int.reduceLT, Int.reduceLE, Int.reduceEq, Int.reduceAdd, Int.reduceNeg, Int.reduceToNat, reduceCtorEq, wantB]⟩, hok.up⟩
        have e1 : wantF y w s = 0 := by unfold wantF; rw [hyn, if_neg (by simpa using c1), if_neg (by omega)]; exact c3
        rw [e1] at t1 k13
        obtain ⟨t31, z1, z2, z3, t35⟩ := t3 e1
        clear z1 z2 z3
        have hY := t35 ⟨by omega, by omega⟩
        have hcnt : (postY y s).slips.xs.length = y.slips.xs.length + 1 := by simp [postY, Sl.xs]
        have hpn := hY.n
        have hpl := hY.len
        have htl : (tryF y s).1.shares.xs.length ≤ 64 := by rw [(tryF_ok t1).1]; exact addT_ok hsh
        have k14 := same14_true (a := (tryF y s).1) (b := (sumT w s).1) (by omega) t31
        have k15 := post15_good y u s (by omega) hsh (by omega) (by omega) t1
        have k16 := slip16_good (postY y s) false y.slips.xs.length (copyS s) (by simp [postY, Sl.xs]) (by omega) hY.lens
        have k17 := same17_true (a := copyS (copyS s)) (b := s) (by simp [copyS, cloneS_xs]; omega) (by simp [copyS, cloneS_xs]; omega) ((copyS_v _).trans (copyS_v s))
        have k18 := totals18 (postY y s) false (by omega)
        have k19 := count19 (postY y s) false
        have k14b := same14_true (a := ownT (postY y s).tot) (b := (sumT w s).1) (by simp [ownT, cloneS_xs]; omega) ((ownT_v _).trans hY.v.symm)
        generalize postY y s = y' at *
        generalize hpB : postB y s = pb at *
        have hpb : cb pb = true := by rw [← hpB]; rfl
        obtain ⟨os, ol, _⟩ := checkF_ok c1
        have k12 := sum12 w s hwok os (by omega) (by omega) (by omega)
        clear os ol
        clear t2 t3 e1
        simp only [slipE, totE, yB, yE, hyn, tot0, sl_nil, hpn, hcnt] at k10 k13 k14 k15 k16 k17 k18 k19 k14b k12
        replace c2 := eq_true c2
        simp only [*, go_sem, ↓reduceIte, Nat.reduceAdd, Nat.reduceSub, Nat.reduceMul, Nat.reduceLeDiff, Nat.reduceLT, Nat.reduceEqDiff, Int.reduceLT, Int.reduceLE, Int.reduceEq, Int.reduceAdd, Int.reduceNeg, Int.reduceToNat, reduceCtorEq, slipE, yB, yE, totE, wantB, tot0, sl_nil]
        all_goals exact ⟨(y', (sumT w s).1), by simp only [hcnt], ⟨false, by simp only [yB, yE, totE, hpn]⟩, Or.inl ⟨uw, by simp only [*, go_sem, ↓reduceIte, Nat.reduceAdd, Nat.reduceSub, Nat.reduceMul, Nat.reduceLeDiff, Nat.reduceLT, Nat.reduceEqDiff, Int.reduceLT, Int.reduceLE, Int.reduceEq, Int.reduceAdd, Int.reduceNeg, Int.reduceToNat, reduceCtorEq, wantB, sl_nil, sl_l]⟩, hY⟩
      ·
        by_cases c1 : checkF s (m : Int) = 0
        case neg =>
          have e1 : wantF y w s = checkF s (m : Int) := by unfold wantF; rw [hyn, if_pos c1]
          rw [e1] at t1 k13
          have e2 := t2 (by rw [e1]; exact c1)
          rw [e2] at k13
          have k14 := same14 tot0 tot0 (by simp [tot0, Sl.xs])
          have k15 := post15_bad y u s (by omega) hsh (by omega) (by omega) (by rw [t1]; exact c1)
          rw [t1] at k15
          have k18 := totals18 y u (by omega)
          have k19 := count19 y u
          have k14b := same14_true (a := ownT y.tot) (b := w) (by simp [ownT, cloneS_xs]; omega) ((ownT_v y.tot).trans hok.v.symm)
          clear t2 t3 e1
          simp only [slipE, totE, yB, yE, hyn, tot0, sl_nil, sl_l, hwl] at k10 k13 k14 k15 k18 k19 k14b
          all_goals rcases hmd with rfl | rfl
          all_goals simp only [*, go_sem, ↓reduceIte, Nat.reduceAdd, Nat.reduceSub, Nat.reduceMul, Nat.reduceLeDiff, Nat.reduceLT, Nat.reduceEqDiff, Int.reduceLT, Int.reduceLE, Int.reduceEq, Int.reduceAdd, Int.reduceNeg, Int.reduceToNat, reduceCtorEq, slipE, yB, yE, totE, wantB, tot0, sl_nil, sl_l, she_take]
          · exact ⟨(y, w), rfl, ⟨u, by simp only [yB, yE, totE, hyn]⟩, Or.inr ⟨uw, 0, cp, lw, hwl, by simp only [*, go_sem, ↓reduceIte, Nat.reduceAdd, Nat.reduceSub, Nat.reduceMul, Nat.reduceLeDiff, Nat.reduceLT, Nat.reduceEqDiff, Int.reduceLT, Int.reduceLE, Int.reduceEq, Int.reduceAdd, Int.reduceNeg, Int.reduceToNat, reduceCtorEq, wantB], by simp only [*, go_sem, ↓reduceIte, Nat.reduceAdd, Nat.reduceSub, Nat.reduceMul, Nat.reduceLeDiff, Nat.reduceLT, Nat.reduceEqDiff, Int.reduceLT, Int.reduceLE, Int.reduceEq, Int.reduceAdd, Int.reduceNeg, Int.reduceToNat, reduceCtorEq], Or.inl rfl⟩, hok.up⟩
          · exact ⟨(y, w), rfl, ⟨u, by simp only [yB, yE, totE, hyn]⟩, Or.inr ⟨uw, 1, cp, lw, hwl, by simp only [*, go_sem, ↓reduceIte, Nat.reduceAdd, Nat.reduceSub, Nat.reduceMul, Nat.reduceLeDiff, Nat.reduceLT, Nat.reduceEqDiff, Int.reduceLT, Int.reduceLE, Int.reduceEq, Int.reduceAdd, Int.reduceNeg, Int.reduceToNat, reduceCtorEq, wantB], by simp only [*, go_sem, ↓reduceIte, Nat.reduceAdd, Nat.reduceSub, Nat.reduceMul, Nat.reduceLeDiff, Nat.reduceLT, Nat.reduceEqDiff, Int.reduceLT, Int.reduceLE, Int.reduceEq, Int.reduceAdd, Int.reduceNeg, Int.reduceToNat, reduceCtorEq], Or.inr rfl⟩, hok.up⟩
        by_cases c2 : s.period = ((y.slips.xs.length + 1 : Nat) : Int)
        case neg =>
          have e1 : wantF y w s = 6 := by unfold wantF; rw [hyn, if_neg (by simpa using c1), if_pos (by omega)]
          rw [e1] at t1 k13
          have e2 := t2 (by rw [e1]; exact (by omega))
          rw [e2] at k13
          have k14 := same14 tot0 tot0 (by simp [tot0, Sl.xs])
          have k15 := post15_bad y u s (by omega) hsh (by omega) (by omega) (by rw [t1]; exact (by omega))
          rw [t1] at k15
          have k18 := totals18 y u (by omega)
          have k19 := count19 y u
          have k14b := same14_true (a := ownT y.tot) (b := w) (by simp [ownT, cloneS_xs]; omega) ((ownT_v y.tot).trans hok.v.symm)
          clear t2 t3 e1
          simp only [slipE, totE, yB, yE, hyn, tot0, sl_nil, sl_l, hwl] at k10 k13 k14 k15 k18 k19 k14b
          replace c2 := eq_false c2
          all_goals rcases hmd with rfl | rfl
          all_goals simp only [*, go_sem, ↓reduceIte, Nat.reduceAdd, Nat.reduceSub, Nat.reduceMul, Nat.reduceLeDiff, Nat.reduceLT, Nat.reduceEqDiff, Int.reduceLT, Int.reduceLE, Int.reduceEq, Int.reduceAdd, Int.reduceNeg, Int.reduceToNat, reduceCtorEq, slipE, yB, yE, totE, wantB, tot0, sl_nil, sl_l, she_take]
          · exact ⟨(y, w), rfl, ⟨u, by simp only [yB, yE, totE, hyn]⟩, Or.inr ⟨uw, 0, cp, lw, hwl, by simp only [*, go_sem, ↓reduceIte, Nat.reduceAdd, Nat.reduceSub, Nat.reduceMul, Nat.reduceLeDiff, Nat.reduceLT, Nat.reduceEqDiff, Int.reduceLT, Int.reduceLE, Int.reduceEq, Int.reduceAdd, Int.reduceNeg, Int.reduceToNat, reduceCtorEq, wantB], by simp only [*, go_sem, ↓reduceIte, Nat.reduceAdd, Nat.reduceSub, Nat.reduceMul, Nat.reduceLeDiff, Nat.reduceLT, Nat.reduceEqDiff, Int.reduceLT, Int.reduceLE, Int.reduceEq, Int.reduceAdd, Int.reduceNeg, Int.reduceToNat, reduceCtorEq], Or.inl rfl⟩, hok.up⟩
          · exact ⟨(y, w), rfl, ⟨u, by simp only [yB, yE, totE, hyn]⟩, Or.inr ⟨uw, 1, cp, lw, hwl, by simp only [*, go_sem, ↓reduceIte, Nat.reduceAdd, Nat.reduceSub, Nat.reduceMul, Nat.reduceLeDiff, Nat.reduceLT, Nat.reduceEqDiff, Int.reduceLT, Int.reduceLE, Int.reduceEq, Int.reduceAdd, Int.reduceNeg, Int.reduceToNat, reduceCtorEq, wantB], by simp only [*, go_sem, ↓reduceIte, Nat.reduceAdd, Nat.reduceSub, Nat.reduceMul, Nat.reduceLeDiff, Nat.reduceLT, Nat.reduceEqDiff, Int.reduceLT, Int.reduceLE, Int.reduceEq, Int.reduceAdd, Int.reduceNeg, Int.reduceToNat, reduceCtorEq], Or.inr rfl⟩, hok.up⟩
        by_cases c3 : (sumT w s).2 = 0
        case neg =>
          have e1 : wantF y w s = (sumT w s).2 := by unfold wantF; rw [hyn, if_neg (by simpa using c1), if_neg (by omega)]
          rw [e1] at t1 k13
          have e2 := t2 (by rw [e1]; exact c3)
          rw [e2] at k13
          have k14 := same14 tot0 tot0 (by simp [tot0, Sl.xs])
          have k15 := post15_bad y u s (by omega) hsh (by omega) (by omega) (by rw [t1]; exact c3)
          rw [t1] at k15
          have k18 := totals18 y u (by omega)
          have k19 := count19 y u
          have k14b := same14_true (a := ownT y.tot) (b := w) (by simp [ownT, cloneS_xs]; omega) ((ownT_v y.tot).trans hok.v.symm)
          obtain ⟨os, ol, _⟩ := checkF_ok c1
          have k12 := sum12 w s hwok os (by omega) (by omega) (by omega)
          clear os ol
          clear t2 t3 e1
          have hq : (sumT w s).1.shares = .l none lw := by rw [sumT_bad c3, hwl]
          simp only [slipE, totE, yB, yE, hyn, tot0, sl_nil, sl_l, hwl, hq] at k10 k13 k14 k15 k18 k19 k14b k12
          replace c2 := eq_true c2
          all_goals rcases hmd with rfl | rfl
          all_goals simp only [*, go_sem, ↓reduceIte, Nat.reduceAdd, Nat.reduceSub, Nat.reduceMul, Nat.reduceLeDiff, Nat.reduceLT, Nat.reduceEqDiff, Int.reduceLT, Int.reduceLE, Int.reduceEq, Int.reduceAdd, Int.reduceNeg, Int.reduceToNat, reduceCtorEq, slipE, yB, yE, totE, wantB, tot0, sl_nil, sl_l, she_take]
          · exact ⟨(y, w), rfl, ⟨u, by simp only [yB, yE, totE, hyn]⟩, Or.inr ⟨uw, 1, cp, lw, hwl, by simp only [*, go_sem, ↓reduceIte, Nat.reduceAdd, Nat.reduceSub, Nat.reduceMul, Nat.reduceLeDiff, Nat.reduceLT, Nat.reduceEqDiff, Int.reduceLT, Int.reduceLE, Int.reduceEq, Int.reduceAdd, Int.reduceNeg, Int.reduceToNat, reduceCtorEq, wantB], by simp only [*, go_sem, ↓reduceIte, Nat.reduceAdd, Nat.reduceSub, Nat.reduceMul, Nat.reduceLeDiff, Nat.reduceLT, Nat.reduceEqDiff, Int.reduceLT, Int.reduceLE, Int.reduceEq, Int.reduceAdd, Int.reduceNeg, Int.reduceToNat, reduceCtorEq], Or.inr rfl⟩, hok.up⟩
          · exact ⟨(y, w), rfl, ⟨u, by simp only [yB, yE, totE, hyn]⟩, Or.inr ⟨uw, 1, cp, lw, hwl, by simp only [*, go_sem, ↓reduceIte, Nat.reduceAdd, Nat.reduceSub, Nat.reduceMul, Nat.reduceLeDiff, Nat.reduceLT, Nat.reduceEqDiff, Int.reduceLT, Int.reduceLE, Int.reduceEq, Int.reduceAdd, Int.reduceNeg, Int.reduceToNat, reduceCtorEq, wantB], by simp only [*, go_sem, ↓reduceIte, Nat.reduceAdd, Nat.reduceSub, Nat.reduceMul, Nat.reduceLeDiff, Nat.reduceLT, Nat.reduceEqDiff, Int.reduceLT, Int.reduceLE, Int.reduceEq, Int.reduceAdd, Int.reduceNeg, Int.reduceToNat, reduceCtorEq], Or.inr rfl⟩, hok.up⟩
        have e1 : wantF y w s = 0 := by unfold wantF; rw [hyn, if_neg (by simpa using c1), if_neg (by omega)]; exact c3
        rw [e1] at t1 k13
        obtain ⟨t31, z1, z2, z3, t35⟩ := t3 e1
        clear z1 z2 z3
        have hY := t35 ⟨by omega, by omega⟩
        have hcnt : (postY y s).slips.xs.length = y.slips.xs.length + 1 := by simp [postY, Sl.xs]
        have hpn := hY.n
        have hpl := hY.len
        have htl : (tryF y s).1.shares.xs.length ≤ 64 := by rw [(tryF_ok t1).1]; exact addT_ok hsh
        have k14 := same14_true (a := (tryF y s).1) (b := (sumT w s).1) (by omega) t31
        have k15 := post15_good y u s (by omega) hsh (by omega) (by omega) t1
        have k16 := slip16_good (postY y s) false y.slips.xs.length (copyS s) (by simp [postY, Sl.xs]) (by omega) hY.lens
        have k17 := same17_true (a := copyS (copyS s)) (b := s) (by simp [copyS, cloneS_xs]; omega) (by simp [copyS, cloneS_xs]; omega) ((copyS_v _).trans (copyS_v s))
        have k18 := totals18 (postY y s) false (by omega)
        have k19 := count19 (postY y s) false
        have k14b := same14_true (a := ownT (postY y s).tot) (b := (sumT w s).1) (by simp [ownT, cloneS_xs]; omega) ((ownT_v _).trans hY.v.symm)
        generalize postY y s = y' at *
        generalize hpB : postB y s = pb at *
        have hpb : cb pb = true := by rw [← hpB]; rfl
        obtain ⟨os, ol, _⟩ := checkF_ok c1
        have k12 := sum12 w s hwok os (by omega) (by omega) (by omega)
        clear os ol
        clear t2 t3 e1
        rcases hq : (sumT w s).1.shares with _ | ⟨c5, l5⟩
        all_goals simp only [slipE, totE, yB, yE, hyn, tot0, sl_nil, sl_l, hwl, hpn, hcnt, hq] at k10 k13 k14 k15 k16 k17 k18 k19 k14b k12
        all_goals replace c2 := eq_true c2
        all_goals rcases hmd with rfl | rfl
        all_goals simp only [*, go_sem, ↓reduceIte, Nat.reduceAdd, Nat.reduceSub, Nat.reduceMul, Nat.reduceLeDiff, Nat.reduceLT, Nat.reduceEqDiff, Int.reduceLT, Int.reduceLE, Int.reduceEq, Int.reduceAdd, Int.reduceNeg, Int.reduceToNat, reduceCtorEq, slipE, yB, yE, totE, wantB, tot0, sl_nil, sl_l, she_take]
        all_goals exact ⟨(y', (sumT w s).1), by simp only [hcnt], ⟨false, by simp only [yB, yE, totE, hpn]⟩, Or.inl ⟨uw, by simp only [*, go_sem, ↓reduceIte, Nat.reduceAdd, Nat.reduceSub, Nat.reduceMul, Nat.reduceLeDiff, Nat.reduceLT, Nat.reduceEqDiff, Int.reduceLT, Int.reduceLE, Int.reduceEq, Int.reduceAdd, Int.reduceNeg, Int.reduceToNat, reduceCtorEq, wantB, sl_nil, sl_l]⟩, hY⟩)
    (by
      clear hx
      rintro ⟨y, w⟩ st ⟨h50, h49, h48, h0, h5, h7, h8, _, _, _, _⟩
      simp only [*, go_sem, ↓reduceIte, Nat.reduceAdd, Nat.reduceSub, Nat.reduceMul, Nat.reduceLeDiff, Nat.reduceLT, Nat.reduceEqDiff, Int.reduceLT, Int.reduceLE, Int.reduceEq, Int.reduceAdd, Int.reduceNeg, Int.reduceToNat, reduceCtorEq, Int.lt_irrefl])
  clear hx
  subst hp
  simp only [*, go_sem, ↓reduceIte, Nat.reduceAdd, Nat.reduceSub, Nat.reduceMul, Nat.reduceLeDiff, Nat.reduceLT, Nat.reduceEqDiff, Int.reduceLT, Int.reduceLE, Int.reduceEq, Int.reduceAdd, Int.reduceNeg, Int.reduceToNat, reduceCtorEq]

end Go.Proofs.Ytjkojcnimnhclaa
end

/-
  What payslips come to, posted one by one: laws of the totals alone.
-/
namespace Go.Proofs.Ytjkojcnimnhclaa
open Go Vm

theorem addT_copy (t : Tot) (s : Slip) : addT t (copyS s) = addT t s := by
  have e1 : tookF (copyS s) = tookF s := by unfold tookF; rw [show (copyS s).taken.xs = s.taken.xs from cloneS_xs _]
  have e2 : postS t.shares (copyS s).shares = postS t.shares s.shares := by unfold postS; rw [show (copyS s).shares.xs = s.shares.xs from cloneS_xs _]
  unfold addT
  rw [e1, e2]
  rfl
theorem checkF_copy (s : Slip) (n : Int) : checkF (copyS s) n = checkF s n := by
  unfold checkF
  rw [show (copyS s).shares.xs = s.shares.xs from cloneS_xs _, show (copyS s).taken.xs = s.taken.xs from cloneS_xs _]
  rfl
theorem uptoF_snoc : ∀ (l : List Slip) (t : Tot) (s : Slip), (uptoF t l).2 = 0 → (addT (uptoF t l).1 s).2 = 0 → uptoF t (l ++ [s]) = ((addT (uptoF t l).1 s).1, 0)
  | [], t, s, _, h => by
    simp only [uptoF] at h
    simp only [List.nil_append, uptoF, h, if_true]
  | a :: r, t, s, h1, h2 => by
    simp only [uptoF] at h1 h2
    simp only [List.cons_append, uptoF]
    by_cases k : (addT t a).2 = 0
    · simp only [k, if_true] at h1 h2 ⊢
      exact uptoF_snoc r _ s h1 h2
    · simp only [k, if_false] at h1
theorem uptoF_app : ∀ (l r : List Slip) (t : Tot), (uptoF t (l ++ r)).2 = 0 → (uptoF t l).2 = 0 ∧ uptoF (uptoF t l).1 r = uptoF t (l ++ r)
  | [], r, t, _ => ⟨rfl, rfl⟩
  | a :: l, r, t, h => by
    simp only [List.cons_append, uptoF] at h ⊢
    by_cases k : (addT t a).2 = 0
    · simp only [k, if_true] at h ⊢
      exact uptoF_app l r _ h
    · simp only [k, if_false] at h

def sideT (l : List Sh) : Int := (l.map (·.a)).sum
/-- In all, the cash is the tax, the contributions, what orders took, and the pay. -/
def bal (t : Tot) : Prop := t.cash = t.tax + sideT t.shares.xs + t.taken + t.pay ∧ t.net = t.taken + t.pay
theorem sideT_zip : ∀ (x y : List Sh), x.length = y.length → sideT (List.zipWith addSh x y) = sideT x + sideT y
  | [], [], _ => rfl
  | a :: x, b :: y, h => by
    have ih := sideT_zip x y (by simpa using h)
    simp only [sideT, List.zipWith_cons_cons, List.map_cons, List.sum_cons, addSh] at ih ⊢
    omega
  | [], _ :: _, h => by simp at h
  | _ :: _, [], h => by simp at h
theorem totF_side : ∀ (l : List Sh) (a b : Int), (totF (a, b) l).2.2 = 0 → (totF (a, b) l).1 = a + sideT l
  | [], a, b, _ => by simp [totF, sideT]
  | s :: r, a, b, h => by
    unfold totF at h ⊢
    by_cases h1 : addE a s.a = 0
    · by_cases h2 : addE b s.b = 0
      · simp only [h1, h2, if_true] at h ⊢
        rw [totF_side r _ _ h, (addE_0 h1).2.2.2]
        simp only [sideT, List.map_cons, List.sum_cons]; omega
      · simp only [h1, h2, if_true, if_false] at h
    · simp only [h1, if_false] at h

theorem addT_0 {t : Tot} {s : Slip} (h : (addT t s).2 = 0) : (addT t s).1 = ⟨t.cash + s.cash, t.taxable + s.taxable, t.social + s.social, t.tax + s.tax, s.shortfall, (postS t.shares s.shares).1, t.net + s.net, t.taken + (tookF s).1, t.pay + s.pay⟩ ∧ (postS t.shares s.shares).2 = 0 := by
  unfold addT at h ⊢
  by_cases c1 : basE t.cash t.taxable t.social s.cash s.taxable s.social = 0
  case neg => simp [c1] at h
  by_cases c2 : (tookF s).2 = 0
  case neg => simp [c1, c2] at h
  by_cases c3 : addE t.tax s.tax = 0
  case neg => simp [c1, c2, c3] at h
  by_cases c4 : addE t.net s.net = 0
  case neg => simp [c1, c2, c3, c4] at h
  by_cases c5 : addE t.taken (tookF s).1 = 0
  case neg => simp [c1, c2, c3, c4, c5] at h
  by_cases c6 : addE t.pay s.pay = 0
  case neg => simp [c1, c2, c3, c4, c5, c6] at h
  by_cases c7 : (postS t.shares s.shares).2 = 0
  case neg => simp [c1, c2, c3, c4, c5, c6, c7] at h
  have b1 : addE t.cash s.cash = 0 ∧ addE t.taxable s.taxable = 0 ∧ addE t.social s.social = 0 := by
    unfold basE at c1
    by_cases k1 : addE t.cash s.cash = 0
    · by_cases k2 : addE t.taxable s.taxable = 0
      · simp only [k1, k2, if_true] at c1; exact ⟨k1, k2, c1⟩
      · simp only [k1, k2, if_true, if_false] at c1
    · simp only [k1, if_false] at c1
  refine ⟨?_, c7⟩
  simp only [c1, c2, c3, c4, c5, c6, c7, not_true_eq_false, if_false, (addE_0 b1.1).2.2.2, (addE_0 b1.2.1).2.2.2, (addE_0 b1.2.2).2.2.2, (addE_0 c3).2.2.2, (addE_0 c4).2.2.2, (addE_0 c5).2.2.2, (addE_0 c6).2.2.2]

/-- What holds of totals of payslips that hang together. -/
structure TOk (t : Tot) (m : Nat) : Prop where
  ok : okT t
  len : t.shares.xs.length = m
  bal : bal t
theorem TOk.zero {m : Nat} : TOk (totN (m : Int)) m := by
  have e0 : (totN (m : Int)).shares = .l none (zeroRow m) := by simp [totN]
  refine ⟨⟨ok0, ok0, ok0, ok0, ok0, ok0, ok0, ?_⟩, by rw [e0, Sl.xs_l, zeroRow_len], ?_⟩
  · rw [e0, Sl.xs_l]
    intro x hx
    rw [List.eq_of_mem_replicate hx]
    exact ⟨ok0, ok0⟩
  · have : sideT (zeroRow m) = 0 := by simp [sideT, zeroRow]
    simp only [Go.Proofs.Ytjkojcnimnhclaa.bal, e0, Sl.xs_l, this]
    simp [totN, tot0]
theorem TOk.add {t : Tot} {m : Nat} {s : Slip} (h : TOk t m) (hs : checkF s (m : Int) = 0) (ha : (addT t s).2 = 0) : TOk (addT t s).1 m := by
  obtain ⟨os, ol, otk, ok, k1, k2, k3⟩ := checkF_ok hs
  have hl : s.shares.xs.length = t.shares.xs.length := by rw [h.len]; omega
  have hsum := (sum_add (w := t) rfl h.ok os otk ok hl).2 ha
  refine ⟨hsum.2.1, hsum.2.2.trans h.len, ?_⟩
  obtain ⟨b1, b2⟩ := h.bal
  obtain ⟨e, e2⟩ := addT_0 ha
  have hp := postS_add (x := t.shares) (y := s.shares) h.ok.2.2.2.2.2.2.2 os.2.2.2.2.2.2.1 hl.symm
  have hz : (List.zipWith addSh t.shares.xs s.shares.xs).all okSh = true := by
    by_cases k : (List.zipWith addSh t.shares.xs s.shares.xs).all okSh = true
    · exact k
    · rw [hp.1, if_neg k] at e2; omega
  rw [e]
  have hside := totF_side s.shares.xs 0 0 k3
  have hx := sideT_zip t.shares.xs s.shares.xs hl.symm
  simp only [Go.Proofs.Ytjkojcnimnhclaa.bal, hp.2 hz, hx, otk]
  rw [hside] at k1
  constructor <;> omega
theorem TOk.upto {m : Nat} : ∀ (l : List Slip) {t : Tot}, TOk t m → (∀ s ∈ l, checkF s (m : Int) = 0) → (uptoF t l).2 = 0 → TOk (uptoF t l).1 m
  | [], t, h, _, _ => h
  | a :: r, t, h, hl, hu => by
    simp only [uptoF] at hu ⊢
    by_cases k : (addT t a).2 = 0
    · simp only [k, if_true] at hu ⊢
      exact TOk.upto r (h.add (hl a (by simp)) k) (fun s hs => hl s (by simp [hs])) hu
    · simp only [k, if_false] at hu

/-- What holds of a year, payslip by payslip. -/
structure YInv (y : Yr) (m : Nat) : Prop where
  n : y.n = (m : Int)
  tot : uptoF (totN (m : Int)) y.slips.xs = (y.tot, 0)
  good : ∀ s ∈ y.slips.xs, checkF s (m : Int) = 0
theorem YInv.tok {y : Yr} {m : Nat} (h : YInv y m) : TOk y.tot m := by
  have := TOk.upto y.slips.xs (TOk.zero (m := m)) h.good (by rw [h.tot])
  rw [h.tot] at this
  exact this
theorem YInv.new {m : Nat} : YInv ⟨(m : Int), .nil, totN (m : Int)⟩ m := ⟨rfl, rfl, by simp [Sl.xs]⟩
theorem YInv.post {y : Yr} {m : Nat} {s : Slip} (h : YInv y m) (hs : (tryF y s).2 = 0) : YInv (postY y s) m := by
  obtain ⟨_, k2, _, k4⟩ := tryF_ok hs
  refine ⟨h.n, ?_, ?_⟩
  · show uptoF (totN (m : Int)) (y.slips.xs ++ [copyS s]) = ((addT y.tot s).1, 0)
    rw [uptoF_snoc _ _ _ (by rw [h.tot]) (by rw [h.tot, addT_copy]; exact k4), h.tot, addT_copy]
  · intro z hz
    simp only [postY, Sl.xs_l, List.mem_append, List.mem_singleton] at hz
    rcases hz with hz | rfl
    · exact h.good z hz
    · rw [checkF_copy, ← h.n]; exact k2

end Go.Proofs.Ytjkojcnimnhclaa

section
/-
  The third statement's run: what the payslips up to a period come to, put to those behind it.
-/
namespace Go.Proofs.Ytjkojcnimnhclaa
open Go Vm
set_option maxRecDepth 4000
set_option linter.unusedSimpArgs false
set_option linter.unusedVariables false

def l30 (l : List Slip) : Prop := ∀ s ∈ l, s.taken.xs.length ≤ 30
theorem uptoF_map : ∀ (l : List Slip) (t : Tot), uptoF t (l.map copyS) = uptoF t l
  | [], _ => rfl
  | a :: r, t => by simp only [List.map_cons, uptoF, addT_copy, uptoF_map r]

set_option maxHeartbeats 2000000 in
theorem upto5 (n k : Int) (xs : Sl Slip) (hlen : xs.xs.length < 9223372036854775808) : callI Try.prog cfg 5 [.s (.int .i64 n), xs.d slipE, .s (.int .i64 k)] [] = some ([.s (.bool true)], []) := by
  rw [callI_eq Try.func5 rfl rfl]
  cases hsm : smallF xs.xs with
  | false => simp only [Try.f5, *, go_sem, ↓reduceIte, Nat.reduceAdd, Nat.reduceSub, Nat.reduceMul, Nat.reduceLeDiff, Nat.reduceLT, Nat.reduceEqDiff, Int.reduceLT, Int.reduceLE, Int.reduceEq, Int.reduceAdd, Int.reduceNeg, Int.reduceToNat, reduceCtorEq]
  | true =>
  have hnew := new11 n
  by_cases h1 : n < 0
  · simp only [Try.f5, *, go_sem, ↓reduceIte, Nat.reduceAdd, Nat.reduceSub, Nat.reduceMul, Nat.reduceLeDiff, Nat.reduceLT, Nat.reduceEqDiff, Int.reduceLT, Int.reduceLE, Int.reduceEq, Int.reduceAdd, Int.reduceNeg, Int.reduceToNat, reduceCtorEq]
  by_cases h2 : 30 < n
  · simp only [Try.f5, *, go_sem, ↓reduceIte, Nat.reduceAdd, Nat.reduceSub, Nat.reduceMul, Nat.reduceLeDiff, Nat.reduceLT, Nat.reduceEqDiff, Int.reduceLT, Int.reduceLE, Int.reduceEq, Int.reduceAdd, Int.reduceNeg, Int.reduceToNat, reduceCtorEq]
  rw [if_neg (by omega)] at hnew
  obtain ⟨m, rfl⟩ := Int.eq_ofNat_of_zero_le (by omega : 0 ≤ n)
  simp only [yB, yE, totE] at hnew
  simp only [Try.f5, *, go_sem, ↓reduceIte, Nat.reduceAdd, Nat.reduceSub, Nat.reduceMul, Nat.reduceLeDiff, Nat.reduceLT, Nat.reduceEqDiff, Int.reduceLT, Int.reduceLE, Int.reduceEq, Int.reduceAdd, Int.reduceNeg, Int.reduceToNat, reduceCtorEq]
  generalize hx : exe _ _ _ (.loop _) _ = r
  have hsl : ∀ s ∈ xs.xs, s.shares.xs.length ≤ 30 ∧ s.taken.xs.length ≤ 30 := by
    intro s hs
    simp only [smallF, Bool.and_eq_true] at hsm
    have := List.all_eq_true.1 hsm.1 s hs
    simpa [smallS] using this
  have h60 : xs.xs.length ≤ 60 := by
    simp only [smallF, Bool.and_eq_true] at hsm
    simpa using hsm.2
  clear hnew hsm
  obtain ⟨z, s1, rfl, hp⟩ := list_use hx (head0 _ _) xs.xs hlen
    (fun i (y : Yr) st => rdT st.tm 42 = .s (.int .i64 (i : Int)) ∧ rdT st.tm 41 = .s (.int .i64 (xs.xs.length : Int)) ∧ rdT st.tm 40 = xs.d slipE ∧ rdT st.tm 2 = .s (.int .i64 k) ∧ rdT st.tm 7 = .p 159 0 0 ∧
      (∃ u, rdH st.hp 159 = yB u y) ∧ 159 < st.nx ∧ YInv y m ∧ y.slips.xs.length ≤ i ∧ lensOk y.slips.xs ∧ l30 y.slips.xs)
    (fun _ _ => ()) (fun _ ex st2 => ex = .exit 0 ∧ rdT st2.tm 2 = .s (.int .i64 k) ∧ rdT st2.tm 7 = .p 159 0 0 ∧ 159 < st2.nx ∧ ∃ y, (∃ u, rdH st2.hp 159 = yB u y) ∧ YInv y m ∧ y.slips.xs.length ≤ 60 ∧ lensOk y.slips.xs ∧ l30 y.slips.xs) ⟨(m : Int), .nil, totN m⟩
    (by
      simp only [*, go_sem, ↓reduceIte, Nat.reduceAdd, Nat.reduceSub, Nat.reduceMul, Nat.reduceLeDiff, Nat.reduceLT, Nat.reduceEqDiff, Int.reduceLT, Int.reduceLE, Int.reduceEq, Int.reduceAdd, Int.reduceNeg, Int.reduceToNat, reduceCtorEq, yB, yE, totE]
      exact ⟨⟨true, rfl⟩, YInv.new, by simp [lensOk], by simp [l30]⟩) (by
      clear hx
      rintro i y st s l ha hd hlt hw ⟨h42, h41, h40, h2, h7, ⟨u, h159⟩, hnx, hinv, hcnt, hlens, h30⟩
      have hsx := hsl s (List.mem_of_getElem? ha)
      have hil := (List.getElem?_eq_some_iff.1 ha).1
      have hyn := hinv.n
      have hsh : shOk y.tot := by have := hinv.tok.len; unfold shOk; omega
      have n159 := nxc (c := 159) (n := st.nx) (by omega)
      generalize hs' : ({ s with period := ((i + 1 : Nat) : Int) } : Slip) = s'
      have hE : slipE s' = [.s (.int .i64 ((i + 1 : Nat) : Int)), .s (.int .i64 s.cash), .s (.int .i64 s.taxable), .s (.int .i64 s.social), .s (.int .i64 s.tax), .s (.int .i64 s.shortfall), s.shares.d she, .s (.int .i64 s.net), s.taken.d te, .s (.int .i64 s.pay)] := by rw [← hs']; rfl
      have hs1 : s'.shares.xs.length ≤ 30 := by rw [← hs']; exact hsx.1
      have hs2 : s'.taken.xs.length ≤ 30 := by rw [← hs']; exact hsx.2
      by_cases hb : (tryF y s').2 = 0
      · have k15 := post15_good y u s' (by omega) hsh (by omega) (by omega) hb
        have hinv' := hinv.post hb
        have hcnt' : (postY y s').slips.xs.length = y.slips.xs.length + 1 := by simp [postY, Sl.xs]
        have hlens' : lensOk (postY y s').slips.xs := by
          intro z hz
          simp only [postY, Sl.xs_l, List.mem_append, List.mem_singleton] at hz
          rcases hz with hz | rfl
          · exact hlens z hz
          · simp only [copyS, cloneS_xs]; omega
        have h30' : l30 (postY y s').slips.xs := by
          intro z hz
          simp only [postY, Sl.xs_l, List.mem_append, List.mem_singleton] at hz
          rcases hz with hz | rfl
          · exact h30 z hz
          · simp only [copyS, cloneS_xs]; omega
        generalize postY y s' = y' at *
        generalize hpB : postB y s' = pb at *
        have hpb : cb pb = true := by rw [← hpB]; rfl
        have hpn := hinv'.n
        rw [hE] at k15
        simp only [totE, yB, yE, hyn, hpn] at k15
        clear hE
        simp only [*, go_sem, ↓reduceIte, Nat.reduceAdd, Nat.reduceSub, Nat.reduceMul, Nat.reduceLeDiff, Nat.reduceLT, Nat.reduceEqDiff, Int.reduceLT, Int.reduceLE, Int.reduceEq, Int.reduceAdd, Int.reduceNeg, Int.reduceToNat, reduceCtorEq, slipE, yB, yE, totE]
        exact ⟨y', ⟨false, by simp only [yB, yE, totE, hpn]⟩, hinv', by omega, hlens', h30'⟩
      · have k15 := post15_bad y u s' (by omega) hsh (by omega) (by omega) hb
        rw [hE] at k15
        simp only [totE, yB, yE, hyn] at k15
        clear hE
        simp only [*, go_sem, ↓reduceIte, Nat.reduceAdd, Nat.reduceSub, Nat.reduceMul, Nat.reduceLeDiff, Nat.reduceLT, Nat.reduceEqDiff, Int.reduceLT, Int.reduceLE, Int.reduceEq, Int.reduceAdd, Int.reduceNeg, Int.reduceToNat, reduceCtorEq, slipE, yB, yE, totE]
        exact ⟨y, ⟨u, by simp only [yB, yE, totE, hyn]⟩, hinv, by omega, hlens, h30⟩)
    (by
      clear hx
      rintro y st ⟨h42, h41, h40, h2, h7, hu, hnx, hinv, hcnt, hlens, h30⟩
      simp only [*, go_sem, ↓reduceIte, Nat.reduceAdd, Nat.reduceSub, Nat.reduceMul, Nat.reduceLeDiff, Nat.reduceLT, Nat.reduceEqDiff, Int.reduceLT, Int.reduceLE, Int.reduceEq, Int.reduceAdd, Int.reduceNeg, Int.reduceToNat, reduceCtorEq, Int.lt_irrefl]
      exact ⟨y, hu, hinv, by omega, hlens, h30⟩)
  clear hx
  obtain ⟨rfl, p2, p7, pnx, y, ⟨u, p159⟩, hinv, h60', hlens, h30⟩ := hp
  have hyn := hinv.n
  have htk := hinv.tok
  have htl := htk.len
  have n159 := nxc (c := 159) (n := s1.nx) (by omega)
  have k19 := count19 y u
  by_cases hk : k < 0 ∨ (y.slips.xs.length : Int) < k
  · have k20 := upto20_bad y u k hk
    have k14 := same14_true (a := tot0) (b := tot0) (by simp [tot0, Sl.xs]) rfl
    simp only [totE, yB, yE, hyn, tot0, sl_nil] at k19 k20 k14
    by_cases hk1 : k < 0
    · simp only [*, go_sem, ↓reduceIte, Nat.reduceAdd, Nat.reduceSub, Nat.reduceMul, Nat.reduceLeDiff, Nat.reduceLT, Nat.reduceEqDiff, Int.reduceLT, Int.reduceLE, Int.reduceEq, Int.reduceAdd, Int.reduceNeg, Int.reduceToNat, reduceCtorEq, slipE, yB, yE, totE]
    · have hk2 : (y.slips.xs.length : Int) < k := by omega
      simp only [*, go_sem, ↓reduceIte, Nat.reduceAdd, Nat.reduceSub, Nat.reduceMul, Nat.reduceLeDiff, Nat.reduceLT, Nat.reduceEqDiff, Int.reduceLT, Int.reduceLE, Int.reduceEq, Int.reduceAdd, Int.reduceNeg, Int.reduceToNat, reduceCtorEq, slipE, yB, yE, totE]
  obtain ⟨kk, rfl⟩ := Int.eq_ofNat_of_zero_le (by omega : 0 ≤ k)
  have hkk : kk ≤ y.slips.xs.length := by omega
  have c1 : ¬ (kk : Int) < 0 := by omega
  have c2 : ¬ (y.slips.xs.length : Int) < (kk : Int) := by omega
  have hsplit := uptoF_app (y.slips.xs.take kk) (y.slips.xs.drop kk) (totN (m : Int)) (by rw [List.take_append_drop, hinv.tot])
  rw [List.take_append_drop, hinv.tot] at hsplit
  have hT := TOk.upto (y.slips.xs.take kk) (TOk.zero (m := m)) (fun s hs => hinv.good s (List.mem_of_mem_take hs)) hsplit.1
  have k20 := upto20 y u kk (by omega) (by have := hinv.n; omega) hkk (by omega) hlens
  have k20b := upto20 y u y.slips.xs.length (by omega) (by have := hinv.n; omega) (Nat.le_refl _) (by omega) hlens
  rw [hyn, hsplit.1] at k20
  rw [hyn, List.take_length, hinv.tot] at k20b
  obtain ⟨hs1, hs2⟩ := hsplit
  generalize (uptoF (totN (m : Int)) (y.slips.xs.take kk)).1 = T1 at *
  have k18 := totals18 y u (by omega)
  have k21 := slips21 y u hlens (by omega)
  have k14 := same14_true (a := y.tot) (b := ownT y.tot) (by omega) (ownT_v y.tot).symm
  have hlm : (accS (y.slips.xs.map copyS)).xs.length = y.slips.xs.length := by simp [accS_xs]
  have hcut := fun dr hp => cut_lo (P := Try.prog) (t := 30) (dr := dr) (by kernel_rfl) slipE_len hp (accS (y.slips.xs.map copyS)) .i64 kk (by omega)
  rw [hlm] at hcut
  have hcx : ((accS (y.slips.xs.map copyS)).cut kk y.slips.xs.length).xs = (y.slips.xs.map copyS).drop kk := by rw [Sl.cut_xs, accS_xs, List.take_of_length_le (by simp)]
  generalize hQ : (accS (y.slips.xs.map copyS)).cut kk y.slips.xs.length = Q at *
  simp only [totE, yB, yE, hyn] at k19 k20 k20b k18 k21 k14
  simp only [*, go_sem, ↓reduceIte, Nat.reduceAdd, Nat.reduceSub, Nat.reduceMul, Nat.reduceLeDiff, Nat.reduceLT, Nat.reduceEqDiff, Int.reduceLT, Int.reduceLE, Int.reduceEq, Int.reduceAdd, Int.reduceNeg, Int.reduceToNat, reduceCtorEq, slipE, yB, yE, totE]
  generalize hx : exe _ _ _ (.loop _) _ = r
  obtain ⟨z, s2, rfl, hp⟩ := list_use hx (head0 _ _) ((y.slips.xs.map copyS).drop kk) (by simp; omega)
    (fun i (b : Tot × Tot) st => rdT st.tm 100 = .s (.int .i64 (i : Int)) ∧ rdT st.tm 99 = .s (.int .i64 (((y.slips.xs.map copyS).drop kk).length : Int)) ∧ rdT st.tm 98 = Q.d slipE ∧ rdT st.tm 2 = .s (.int .i64 (kk : Int)) ∧ rdT st.tm 7 = .p 159 0 0 ∧ rdT st.tm 11 = .p s1.nx 0 0 ∧ rdT st.tm 13 = .p (s1.nx + 1) 0 0 ∧
      rdH st.hp 159 = yB u y ∧ rdH st.hp s1.nx = totB b.1 ∧ rdH st.hp (s1.nx + 1) = totB y.tot ∧ s1.nx + 1 < st.nx ∧ b.1.v = b.2.v ∧ TOk b.2 m ∧ uptoF b.2 (((y.slips.xs.map copyS).drop kk).drop i) = (y.tot, 0))
    (fun _ _ => ()) (fun _ ex st2 => ex = .exit 2 ∧ rdT st2.tm 2 = .s (.int .i64 (kk : Int)) ∧ rdT st2.tm 7 = .p 159 0 0 ∧ rdT st2.tm 11 = .p s1.nx 0 0 ∧ rdT st2.tm 13 = .p (s1.nx + 1) 0 0 ∧
      rdH st2.hp 159 = yB u y ∧ rdH st2.hp (s1.nx + 1) = totB y.tot ∧ s1.nx + 1 < st2.nx ∧ ∃ t, rdH st2.hp s1.nx = totB t ∧ t.v = y.tot.v) (T1, T1)
    (by
      simp only [*, go_sem, ↓reduceIte, Nat.reduceAdd, Nat.reduceSub, Nat.reduceMul, Nat.reduceLeDiff, Nat.reduceLT, Nat.reduceEqDiff, Int.reduceLT, Int.reduceLE, Int.reduceEq, Int.reduceAdd, Int.reduceNeg, Int.reduceToNat, reduceCtorEq, yB, yE, totE, totB]
      exact ⟨by omega, by rw [← List.map_drop, uptoF_map]; exact hs2⟩) (by
      clear hx
      rintro i ⟨t, T⟩ st s l ha hd hlt hw ⟨h100, h99, h98, h2, h7, h11, h13, h159, hN, hN1, hnx, hv, hTo, hup⟩
      dsimp only at hN hv hTo hup
      rw [hd] at hup
      simp only [uptoF] at hup
      have hadd : (addT T s).2 = 0 := by
        by_cases k : (addT T s).2 = 0
        · exact k
        · rw [if_neg k] at hup; exact absurd (congrArg Prod.snd hup) k
      rw [if_pos hadd] at hup
      have hmem : s ∈ y.slips.xs.map copyS := List.mem_of_mem_drop (List.mem_of_getElem? ha)
      obtain ⟨s0, hs0, rfl⟩ := List.mem_map.1 hmem
      have hck := hinv.good s0 hs0
      rw [← checkF_copy] at hck
      obtain ⟨os, ol, otk, okk, _⟩ := checkF_ok hck
      have hl2 : (copyS s0).shares.xs.length = T.shares.xs.length := by rw [hTo.len]; omega
      have hsum := sum_add hv hTo.ok os otk okk hl2
      have hsum2 := hsum.2 hadd
      have hz : (sumT t (copyS s0)).2 = 0 := by rw [hsum.1]; exact hadd
      have htx := shares_v hv
      have htl := hTo.len
      have hl0 := hlens s0 hs0
      have k12 := sum12 t (copyS s0) (okT_v hv hTo.ok) os (by rw [htx]; exact hl2) (by rw [htx]; omega) (by simp only [copyS, cloneS_xs]; exact h30 s0 hs0)
      have hTo2 := hTo.add hck hadd
      have a0 := nxc (c := 159) (n := st.nx) (by omega)
      have a1 := nxc (c := s1.nx) (n := st.nx) (by omega)
      have a2 := nxc (c := s1.nx + 1) (n := st.nx) (by omega)
      simp only [totE, slipE] at k12
      have hd2 : ((y.slips.xs.map copyS).drop kk).drop (i + 1) = l := by
        have := congrArg List.tail hd
        rw [List.tail_drop] at this
        exact this
      simp only [*, go_sem, ↓reduceIte, Nat.reduceAdd, Nat.reduceSub, Nat.reduceMul, Nat.reduceLeDiff, Nat.reduceLT, Nat.reduceEqDiff, Int.reduceLT, Int.reduceLE, Int.reduceEq, Int.reduceAdd, Int.reduceNeg, Int.reduceToNat, reduceCtorEq, slipE, yB, yE, totE, totB]
      exact ⟨((sumT t (copyS s0)).1, (addT T (copyS s0)).1), rfl, hsum2.1, hTo2, by first | exact hup | (rw [hd2]; exact hup)⟩)
    (by
      clear hx
      rintro ⟨t, T⟩ st ⟨h100, h99, h98, h2, h7, h11, h13, h159, hN, hN1, hnx, hv, hTo, hup⟩
      rw [List.drop_length] at hup
      simp only [uptoF, Prod.mk.injEq, and_true] at hup
      subst hup
      simp only [*, go_sem, ↓reduceIte, Nat.reduceAdd, Nat.reduceSub, Nat.reduceMul, Nat.reduceLeDiff, Nat.reduceLT, Nat.reduceEqDiff, Int.reduceLT, Int.reduceLE, Int.reduceEq, Int.reduceAdd, Int.reduceNeg, Int.reduceToNat, reduceCtorEq, Int.lt_irrefl]
      exact ⟨t, rfl, hv⟩)
  clear hx
  obtain ⟨rfl, q2, q7, q11, q13, q159, qN1, qnx, t, qN, hv⟩ := hp
  have a0 := nxc (c := 159) (n := s2.nx) (by omega)
  have a1 := nxc (c := s1.nx) (n := s2.nx) (by omega)
  have a2 := nxc (c := s1.nx + 1) (n := s2.nx) (by omega)
  clear k20 k20b k18 k21 k14 hcut hcx hQ hlm p2 p7 p159
  simp only [*, go_sem, ↓reduceIte, Nat.reduceAdd, Nat.reduceSub, Nat.reduceMul, Nat.reduceLeDiff, Nat.reduceLT, Nat.reduceEqDiff, Int.reduceLT, Int.reduceLE, Int.reduceEq, Int.reduceAdd, Int.reduceNeg, Int.reduceToNat, reduceCtorEq, totB, totE]
  generalize hx : exe _ _ _ (.loop _) _ = r
  obtain ⟨z, s3, rfl, hp⟩ := list_use hx (head0 _ _) y.tot.shares.xs (by omega)
    (fun i (b : Int) st => rdT st.tm 116 = .s (.int .i64 (i : Int)) ∧ rdT st.tm 115 = .s (.int .i64 (m : Int)) ∧ rdT st.tm 114 = y.tot.shares.d she ∧ rdT st.tm 2 = .s (.int .i64 (kk : Int)) ∧ rdT st.tm 7 = .p 159 0 0 ∧ rdT st.tm 11 = .p s1.nx 0 0 ∧ rdT st.tm 13 = .p (s1.nx + 1) 0 0 ∧ rdT st.tm 17 = .s (.int .i64 b) ∧
      rdH st.hp 159 = yB u y ∧ rdH st.hp s1.nx = totB t ∧ rdH st.hp (s1.nx + 1) = totB y.tot ∧ s1.nx + 1 < st.nx ∧ b ≤ 100000000000 * i ∧ -100000000000 * i ≤ b)
    (fun b l => b + sideT l) (fun r ex st2 => ex = .exit 4 ∧ rdT st2.tm 2 = .s (.int .i64 (kk : Int)) ∧ rdT st2.tm 7 = .p 159 0 0 ∧ rdT st2.tm 11 = .p s1.nx 0 0 ∧ rdT st2.tm 13 = .p (s1.nx + 1) 0 0 ∧ rdT st2.tm 17 = .s (.int .i64 r) ∧
      rdH st2.hp 159 = yB u y ∧ rdH st2.hp s1.nx = totB t ∧ rdH st2.hp (s1.nx + 1) = totB y.tot ∧ r ≤ 100000000000 * 64 ∧ -100000000000 * 64 ≤ r) 0
    (by
      simp only [*, go_sem, ↓reduceIte, Nat.reduceAdd, Nat.reduceSub, Nat.reduceMul, Nat.reduceLeDiff, Nat.reduceLT, Nat.reduceEqDiff, Int.reduceLT, Int.reduceLE, Int.reduceEq, Int.reduceAdd, Int.reduceNeg, Int.reduceToNat, reduceCtorEq, totE, totB]
      omega) (by
      clear hx
      rintro i b st x l ha hd hlt hw ⟨h116, h115, h114, h2, h7, h11, h13, h17, h159, hN, hN1, hnx, hb1, hb2⟩
      have hxo := okM_iff.1 (htk.ok.2.2.2.2.2.2.2 x (List.mem_of_getElem? ha)).1
      have a0 := nxc (c := 159) (n := st.nx) (by omega)
      have a1 := nxc (c := s1.nx) (n := st.nx) (by omega)
      have a2 := nxc (c := s1.nx + 1) (n := st.nx) (by omega)
      have hil := (List.getElem?_eq_some_iff.1 ha).1
      have w1 : IntKind.i64.wrap (b + x.a) = b + x.a := wrap_ok (by omega) (by omega)
      have hlt2 : (i : Int) < (m : Int) := by omega
      simp only [*, go_sem, ↓reduceIte, Nat.reduceAdd, Nat.reduceSub, Nat.reduceMul, Nat.reduceLeDiff, Nat.reduceLT, Nat.reduceEqDiff, Int.reduceLT, Int.reduceLE, Int.reduceEq, Int.reduceAdd, Int.reduceNeg, Int.reduceToNat, reduceCtorEq, she, totE, totB, yB, yE]
      refine ⟨b + x.a, ⟨rfl, by omega, by omega⟩, ?_⟩
      simp only [sideT, List.map_cons, List.sum_cons]
      omega)
    (by
      clear hx
      rintro b st ⟨h116, h115, h114, h2, h7, h11, h13, h17, h159, hN, hN1, hnx, hb1, hb2⟩
      have e : b + sideT [] = b := by simp [sideT]
      simp only [*, go_sem, ↓reduceIte, Nat.reduceAdd, Nat.reduceSub, Nat.reduceMul, Nat.reduceLeDiff, Nat.reduceLT, Nat.reduceEqDiff, Int.reduceLT, Int.reduceLE, Int.reduceEq, Int.reduceAdd, Int.reduceNeg, Int.reduceToNat, reduceCtorEq, Int.lt_irrefl]
      omega)
  clear hx
  obtain ⟨rfl, r2, r7, r11, r13, r17, r159, rN, rN1, rb1, rb2⟩ := hp
  have k14 := same14_true (a := t) (b := y.tot) (by rw [shares_v hv]; omega) hv
  rw [Int.zero_add] at r17 rb1 rb2
  obtain ⟨b1, b2⟩ := htk.bal
  obtain ⟨o1, o2, o3, o4, o5, o6, o7, _⟩ := htk.ok
  simp only [okM_iff] at o1 o2 o3 o4 o5 o6 o7
  have w1 : IntKind.i64.wrap (y.tot.tax + sideT y.tot.shares.xs) = y.tot.tax + sideT y.tot.shares.xs := wrap_ok (by omega) (by omega)
  have w2 : IntKind.i64.wrap (y.tot.tax + sideT y.tot.shares.xs + y.tot.taken) = y.tot.tax + sideT y.tot.shares.xs + y.tot.taken := wrap_ok (by omega) (by omega)
  have w3 : IntKind.i64.wrap (y.tot.tax + sideT y.tot.shares.xs + y.tot.taken + y.tot.pay) = y.tot.tax + sideT y.tot.shares.xs + y.tot.taken + y.tot.pay := wrap_ok (by omega) (by omega)
  have w4 : IntKind.i64.wrap (y.tot.taken + y.tot.pay) = y.tot.taken + y.tot.pay := wrap_ok (by omega) (by omega)
  replace b1 := eq_true b1
  replace b2 := eq_true b2
  clear o1 o2 o3 o4 o5 o6 o7 rb1 rb2 q2 q7 q11 q13 q159 qN1 qN hs2
  simp only [totE] at k14
  by_cases hlt : (kk : Int) < (y.slips.xs.length : Int)
  · simp only [*, go_sem, ↓reduceIte, Nat.reduceAdd, Nat.reduceSub, Nat.reduceMul, Nat.reduceLeDiff, Nat.reduceLT, Nat.reduceEqDiff, Int.reduceLT, Int.reduceLE, Int.reduceEq, Int.reduceAdd, Int.reduceNeg, Int.reduceToNat, reduceCtorEq, totE, totB, yB, yE]
  · simp only [*, go_sem, ↓reduceIte, Nat.reduceAdd, Nat.reduceSub, Nat.reduceMul, Nat.reduceLeDiff, Nat.reduceLT, Nat.reduceEqDiff, Int.reduceLT, Int.reduceLE, Int.reduceEq, Int.reduceAdd, Int.reduceNeg, Int.reduceToNat, reduceCtorEq, totE, totB, yB, yE]

end Go.Proofs.Ytjkojcnimnhclaa
end

/-
  The statements' arguments, as payslips and numbers.
-/
namespace Go.Proofs.Ytjkojcnimnhclaa
open Go Vm

theorem fit2 {n : Nat} {ds : List D} (h : Fit Try.prog (n + 1) 2 ds) : ∃ x, ds = [.s (.int .i64 x)] := by
  obtain ⟨x, hx, _⟩ := fit_int Try.underlying2 h
  exact ⟨x, hx⟩
theorem fit54 {n : Nat} {ds : List D} (h : Fit Try.prog (n + 2) 54 ds) : ∃ a : Sh, ds = she a ∧ True := by
  obtain ⟨p1, q1, rfl, h1, h⟩ := fitL_cons (fit_struct Try.underlying54 h)
  obtain ⟨p2, q2, rfl, h2, h⟩ := fitL_cons h
  cases fitL_nil h
  obtain ⟨x1, rfl⟩ := fit2 h1
  obtain ⟨x2, rfl⟩ := fit2 h2
  exact ⟨⟨x1, x2⟩, rfl, trivial⟩
theorem fit59 {n : Nat} {ds : List D} (h : Fit Try.prog (n + 2) 59 ds) : ∃ a : Tk, ds = te a ∧ True := by
  obtain ⟨p1, q1, rfl, h1, h⟩ := fitL_cons (fit_struct Try.underlying59 h)
  obtain ⟨p2, q2, rfl, h2, h⟩ := fitL_cons h
  obtain ⟨p3, q3, rfl, h3, h⟩ := fitL_cons h
  obtain ⟨p4, q4, rfl, h4, h⟩ := fitL_cons h
  obtain ⟨p5, q5, rfl, h5, h⟩ := fitL_cons h
  obtain ⟨p6, q6, rfl, h6, h⟩ := fitL_cons h
  cases fitL_nil h
  obtain ⟨x1, rfl, _⟩ := fit_int Try.underlying3 h1
  obtain ⟨x2, rfl⟩ := fit2 h2
  obtain ⟨x3, rfl⟩ := fit2 h3
  obtain ⟨x4, rfl⟩ := fit2 h4
  obtain ⟨x5, rfl⟩ := fit2 h5
  obtain ⟨x6, rfl⟩ := fit2 h6
  exact ⟨⟨x1, x2, x3, x4, x5, x6⟩, rfl, trivial⟩
def lenOk (s : Slip) : Prop := s.shares.xs.length < 9223372036854775808 ∧ s.taken.xs.length < 9223372036854775808
theorem fit27 {n : Nat} {ds : List D} (h : Fit Try.prog (n + 5) 27 ds) : ∃ s : Slip, ds = slipE s ∧ lenOk s := by
  obtain ⟨p1, q1, rfl, h1, h⟩ := fitL_cons (fit_struct Try.underlying27 h)
  obtain ⟨p2, q2, rfl, h2, h⟩ := fitL_cons h
  obtain ⟨p3, q3, rfl, h3, h⟩ := fitL_cons h
  obtain ⟨p4, q4, rfl, h4, h⟩ := fitL_cons h
  obtain ⟨p5, q5, rfl, h5, h⟩ := fitL_cons h
  obtain ⟨p6, q6, rfl, h6, h⟩ := fitL_cons h
  obtain ⟨p7, q7, rfl, h7, h⟩ := fitL_cons h
  obtain ⟨p8, q8, rfl, h8, h⟩ := fitL_cons h
  cases fitL_nil h
  obtain ⟨x1, rfl, _⟩ := fit_int Try.underlying3 h1
  obtain ⟨b1, c1, rfl, g1, h2⟩ := fitL_cons (fit_struct Try.underlying23 h2)
  obtain ⟨b2, c2, rfl, g2, h2⟩ := fitL_cons h2
  obtain ⟨b3, c3, rfl, g3, h2⟩ := fitL_cons h2
  cases fitL_nil h2
  obtain ⟨y1, rfl⟩ := fit2 g1
  obtain ⟨y2, rfl⟩ := fit2 g2
  obtain ⟨y3, rfl⟩ := fit2 g3
  obtain ⟨x3, rfl⟩ := fit2 h3
  obtain ⟨x4, rfl⟩ := fit2 h4
  obtain ⟨x5, rfl, l5, _⟩ := fit_sl Try.underlying24 (fun x hx => fit54 hx) h5
  obtain ⟨x6, rfl⟩ := fit2 h6
  obtain ⟨x7, rfl, l7, _⟩ := fit_sl Try.underlying25 (fun x hx => fit59 hx) h7
  obtain ⟨x8, rfl⟩ := fit2 h8
  exact ⟨⟨x1, y1, y2, y3, x3, x4, x5, x6, x7, x8⟩, rfl, maxLen_lt l5, maxLen_lt l7⟩

end Go.Proofs.Ytjkojcnimnhclaa
