/-
  Texts that the last one of this claim leans on (part 4).
-/
import Derived.Test.YtenldcieoalgoaaJc
set_option linter.unusedSimpArgs false
set_option linter.unusedVariables false
set_option linter.unusedSectionVars false

section
/-
  Pieces without those that go on as the one ahead does; a function that was made.
-/
namespace Go.Proofs.Ytenldcieoalgoaa
open Go Vm
set_option maxRecDepth 4000
set_option linter.unusedSimpArgs false
set_option linter.unusedVariables false

/-- Does a piece go on as the last one does? -/
def jn (b : List Ln) (l : Ln) : Bool := match b.getLast? with
  | none => false
  | some q => decide (q.r = l.r) && decide (atF q l.f = l.v)
def joinL : List Ln → List Ln → List Ln
  | b, [] => b
  | b, l :: r => if jn b l = true then joinL b r else joinL (b ++ [l]) r

theorem joinL_len : ∀ (l b : List Ln), (joinL b l).length ≤ b.length + l.length
  | [], b => by simp [joinL]
  | a :: r, b => by
    have h1 := joinL_len r b
    have h2 := joinL_len r (b ++ [a])
    simp only [joinL]
    split
    · simp; omega
    · simp at h2 ⊢; omega

@[go_sem] theorem join39 (x : Sl Ln) (hlen : x.xs.length ≤ 1000000) : callI Try.prog cfg 39 [x.d lne] [] = some ([(accS (joinL [] x.xs)).d lne], []) := by
  rw [callI_eq Try.func39 rfl rfl]
  simp only [Try.f39, *, go_sem, ↓reduceIte, Nat.reduceAdd, Nat.reduceSub, Nat.reduceMul, Nat.reduceLeDiff, Nat.reduceLT, Nat.reduceEqDiff, Nat.reduceBEq, Int.reduceLT, Int.reduceLE, Int.reduceEq, Int.reduceAdd, Int.reduceNeg, Int.reduceToNat, reduceCtorEq]
  generalize hx : exe _ _ _ (.loop _) _ = r
  obtain ⟨z, s1, rfl, hp⟩ := list_use hx (head0 _ _) x.xs (by omega)
    (fun i (b : List Ln) st => rdT st.tm 9 = .s (.int .i64 (i : Int)) ∧ rdT st.tm 8 = .s (.int .i64 (x.xs.length : Int)) ∧ rdT st.tm 7 = x.d lne ∧ b.length ≤ i ∧ Acc st.hp 0 st.nx 3 (b.map lne) (rdT st.tm 3))
    joinL
    (fun r ex st2 => ex = .exit 0 ∧ Acc st2.hp 0 st2.nx 3 (r.map lne) (rdT st2.tm 3)) []
    (by simp only [*, go_sem, ↓reduceIte, Nat.reduceAdd, Nat.reduceSub, Nat.reduceMul, Nat.reduceLeDiff, Nat.reduceLT, Nat.reduceEqDiff, Nat.reduceBEq, Int.reduceLT, Int.reduceLE, Int.reduceEq, Int.reduceAdd, Int.reduceNeg, Int.reduceToNat, reduceCtorEq]; exact acc_nil _ _ _ _) (by
      clear hx
      rintro i b st a l ha hd hlt hw ⟨h9, h8, h7, hbl, hacc⟩
      generalize h3 : rdT st.tm 3 = d at hacc
      have hi := (List.getElem?_eq_some_iff.1 ha).1
      have happ := app_one (α := Ln) (f := lne) (k := 0) (nt := 47) (fn := 39) (ro := true) (K := 0) (N := st.nx) (bytes := 24) (xs := b) (d := d) a lne_len (Nat.zero_le _) (by omega) (by omega)
      have hA := hacc
      simp only [lne] at happ
      rcases hacc with ⟨rfl, hb⟩ | ⟨id, q1, q2, q3, rfl, q5⟩
      · have hb2 : b = [] := by simpa using hb
        subst hb2
        have hj : jn [] a = false := rfl
        simp only [List.length_nil, Nat.zero_add, List.map_nil] at happ hA
        clear hd hlen hi hb
        simp only [*, go_sem, ↓reduceIte, Nat.reduceAdd, Nat.reduceSub, Nat.reduceMul, Nat.reduceLeDiff, Nat.reduceLT, Nat.reduceEqDiff, Nat.reduceBEq, Int.reduceLT, Int.reduceLE, Int.reduceEq, Int.reduceAdd, Int.reduceNeg, Int.reduceToNat, reduceCtorEq, lne, joinL, Int.lt_irrefl]
        refine ⟨[a], ?_⟩
        simp only [List.length_cons, List.length_nil, List.nil_append, and_true, true_and]
        exact ⟨by omega, acc_new (by omega) (by omega) (by simp) (by simp)⟩
      · have hbne : b ≠ [] := by simpa using q3
        obtain ⟨b', q, rfl⟩ : ∃ b' q, b = b' ++ [q] := ⟨_, _, (List.dropLast_concat_getLast hbne).symm⟩
        have e0 : ((b' ++ [q]).map lne).length = b'.length + 1 := by simp
        have e2 : (b' ++ [q]).length = b'.length + 1 := by simp
        have e3 : ((b' ++ [q]).map lne)[b'.length]? = some (lne q) := by simp
        have e4 : 0 < ((b'.length + 1 : Nat) : Int) := by omega
        have e5 : IntKind.i64.wrap (((b'.length + 1 : Nat) : Int) - 1) = (b'.length : Int) := by rw [IntKind.wrap_i64]; omega
        have e6 : b'.length < b'.length + 1 := by omega
        have hj : jn (b' ++ [q]) a = (decide (q.r = a.r) && decide (atF q a.f = a.v)) := by simp [jn]
        have n1 : ¬ st.nx = id := by omega
        have ke := at26 q a.f
        rw [e0] at hA happ
        rw [e2] at happ hbl
        simp only [lne] at ke e3
        generalize hbb : b' ++ [q] = bb at *
        have hbl2 : b'.length + 1 ≤ i + 1 := by omega
        have hbl3 : b'.length + 1 + 1 ≤ i + 1 := by omega
        have hbb2 : bb.length = b'.length + 1 := e2
        by_cases c1 : q.r = a.r
        · by_cases c2 : atF q a.f = a.v
          · have hj2 : jn bb a = true := by rw [hj]; simp [c1, c2]
            replace c1 := eq_true c1
            replace c2 := eq_true c2
            clear hd hlen hi hj happ hbb q3 hbne e2
            simp only [*, go_sem, ↓reduceIte, Nat.reduceAdd, Nat.reduceSub, Nat.reduceMul, Nat.reduceLeDiff, Nat.reduceLT, Nat.reduceEqDiff, Nat.reduceBEq, Int.reduceLT, Int.reduceLE, Int.reduceEq, Int.reduceAdd, Int.reduceNeg, Int.reduceToNat, reduceCtorEq, lne, joinL]
            exact ⟨bb, ⟨by omega, acc_mono (acc_cons (acc_cons hA (Nat.le_refl _) _) (Nat.le_refl _) _) (Nat.le_succ _)⟩, rfl⟩
          · have hj2 : jn bb a = false := by rw [hj]; simp [c2]
            replace c1 := eq_true c1
            clear hd hlen hi hj hbb q3 hbne e2
            simp only [*, go_sem, ↓reduceIte, Nat.reduceAdd, Nat.reduceSub, Nat.reduceMul, Nat.reduceLeDiff, Nat.reduceLT, Nat.reduceEqDiff, Nat.reduceBEq, Int.reduceLT, Int.reduceLE, Int.reduceEq, Int.reduceAdd, Int.reduceNeg, Int.reduceToNat, reduceCtorEq, lne, joinL]
            exact ⟨bb ++ [a], ⟨by simp; omega, acc_new (Nat.zero_le _) (by omega) (by simp; omega) (by simp)⟩, rfl⟩
        · have hj2 : jn bb a = false := by rw [hj]; simp [c1]
          clear hd hlen hi hj hbb q3 hbne e2
          simp only [*, go_sem, ↓reduceIte, Nat.reduceAdd, Nat.reduceSub, Nat.reduceMul, Nat.reduceLeDiff, Nat.reduceLT, Nat.reduceEqDiff, Nat.reduceBEq, Int.reduceLT, Int.reduceLE, Int.reduceEq, Int.reduceAdd, Int.reduceNeg, Int.reduceToNat, reduceCtorEq, lne, joinL]
          exact ⟨bb ++ [a], ⟨by simp; omega, acc_new (Nat.zero_le _) (by omega) (by simp; omega) (by simp)⟩, rfl⟩)
    (by
      clear hx
      rintro b st ⟨h9, h8, h7, hbl, hacc⟩
      simp only [*, go_sem, ↓reduceIte, Nat.reduceAdd, Nat.reduceSub, Nat.reduceMul, Nat.reduceLeDiff, Nat.reduceLT, Nat.reduceEqDiff, Nat.reduceBEq, Int.reduceLT, Int.reduceLE, Int.reduceEq, Int.reduceAdd, Int.reduceNeg, Int.reduceToNat, reduceCtorEq, Int.lt_irrefl, joinL])
  clear hx
  obtain ⟨rfl, p2⟩ := hp
  generalize hd3 : rdT s1.tm 3 = d at p2
  have f1 := frzG_acc p2
  have f2 := acc_sl p2
  simp only [*, go_sem, ↓reduceIte, Nat.reduceAdd, Nat.reduceSub, Nat.reduceMul, Nat.reduceLeDiff, Nat.reduceLT, Nat.reduceEqDiff, Nat.reduceBEq, Int.reduceLT, Int.reduceLE, Int.reduceEq, Int.reduceAdd, Int.reduceNeg, Int.reduceToNat, reduceCtorEq]

@[go_sem] theorem done31 (x : Sl Ln) (hlen : x.xs.length ≤ 1000000) : callI Try.prog cfg 31 [x.d lne] [] = some (if ckF (joinL [] x.xs) = 0 then [(accS (joinL [] x.xs)).d lne, .s (.int .i64 0)] else [nilS, .s (.int .i64 (ckF (joinL [] x.xs)))], []) := by
  rw [callI_eq Try.func31 rfl rfl]
  have hj := joinL_len x.xs []
  have hl : (accS (joinL [] x.xs)).xs.length < 9223372036854775808 := by rw [accS_xs]; simp at hj; omega
  have hc := check12 (accS (joinL [] x.xs)) hl
  rw [accS_xs] at hc
  by_cases h : ckF (joinL [] x.xs) = 0
  · rw [h] at hc
    replace h := eq_true h
    simp only [Try.f31, *, go_sem, ↓reduceIte, Nat.reduceAdd, Nat.reduceSub, Nat.reduceMul, Nat.reduceLeDiff, Nat.reduceLT, Nat.reduceEqDiff, Nat.reduceBEq, Int.reduceLT, Int.reduceLE, Int.reduceEq, Int.reduceAdd, Int.reduceNeg, Int.reduceToNat, reduceCtorEq]
  · simp only [Try.f31, *, go_sem, ↓reduceIte, Nat.reduceAdd, Nat.reduceSub, Nat.reduceMul, Nat.reduceLeDiff, Nat.reduceLT, Nat.reduceEqDiff, Nat.reduceBEq, Int.reduceLT, Int.reduceLE, Int.reduceEq, Int.reduceAdd, Int.reduceNeg, Int.reduceToNat, reduceCtorEq]

/-- Both functions' error. -/
def boF (x y : List Ln) : Int := if ckF x = 0 then ckF y else ckF x
@[go_sem] theorem both29 (x y : Sl Ln) (h1 : x.xs.length < 9223372036854775808) (h2 : y.xs.length < 9223372036854775808) : callI Try.prog cfg 29 [x.d lne, y.d lne] [] = some ([.s (.int .i64 (boF x.xs y.xs))], []) := by
  rw [callI_eq Try.func29 rfl rfl]
  by_cases h : ckF x.xs = 0
  · simp only [Try.f29, *, go_sem, ↓reduceIte, Nat.reduceAdd, Nat.reduceSub, Nat.reduceMul, Nat.reduceLeDiff, Nat.reduceLT, Nat.reduceEqDiff, Nat.reduceBEq, Int.reduceLT, Int.reduceLE, Int.reduceEq, Int.reduceAdd, Int.reduceNeg, Int.reduceToNat, reduceCtorEq, boF]
  · simp only [Try.f29, *, go_sem, ↓reduceIte, Nat.reduceAdd, Nat.reduceSub, Nat.reduceMul, Nat.reduceLeDiff, Nat.reduceLT, Nat.reduceEqDiff, Nat.reduceBEq, Int.reduceLT, Int.reduceLE, Int.reduceEq, Int.reduceAdd, Int.reduceNeg, Int.reduceToNat, reduceCtorEq, boF]

end Go.Proofs.Ytenldcieoalgoaa
end

section
/-
  Some numbers about those at which something happens.
-/
namespace Go.Proofs.Ytenldcieoalgoaa
open Go Vm
set_option maxRecDepth 4000
set_option linter.unusedSimpArgs false
set_option linter.unusedVariables false

/-- A list that grows, from three numbers on. -/
def AccB (hp : List (Nat × Blk)) (K N : Nat) (L : List Int) (d : D) (fl : Bool) : Prop := (fl = false ∧ d = (Sl.l (some 3) L).d ieD ∧ L.length = 3) ∨ (∃ id, K ≤ id ∧ id < N ∧ L ≠ [] ∧ d = .a id 0 L.length 1 ∧ rdH hp id = ⟨L.map ieD, true, 0, true, none⟩)
def accQ (hp : List (Nat × Blk)) : D → List (Nat × Blk)
  | .a id .. => (id, { rdH hp id with md := 2 }) :: hp
  | _ => hp
theorem accB_app {k nt fn : Nat} {ro : Bool} {K N : Nat} {L : List Int} {d : D} {fl : Bool} (v : Int) (hk : k ≤ K) (hl : L.length ≤ 1000000) (tm : List (Nat × D)) (hp : List (Nat × Blk)) (nx : Nat) (h : AccB hp K N L d fl) :
    appendD ⟨k, nt, fn, ro⟩ 1 8 ⟨tm, hp, nx⟩ d (.l (some 1) [[.s (.int .i64 v)]]) = some (.a nx 0 (L.length + 1) 1, ⟨tm, (nx, ⟨(L ++ [v]).map ieD, true, 0, true, none⟩) :: accQ hp d, nx + 1⟩) := by
  rcases h with ⟨_, rfl, h3⟩ | ⟨id, h1, h2, h3, rfl, h5⟩
  · have := app_full (f := ieD) (x := Sl.l (some 3) L) (n := 1) (bytes := 8) (fr := ⟨k, nt, fn, ro⟩) (st := ⟨tm, hp, nx⟩) (y := .l (some 1) [[.s (.int .i64 v)]]) (new := [[.s (.int .i64 v)]]) ieD_len (by intro c xs h; cases h; rw [h3]) rfl rfl (by simp [Sl.xs]; omega) (by simp [Sl.xs]; omega) rfl
    rw [this]
    simp [accQ, Sl.d, Sl.xs, ieD]
  · have hA : Acc hp K N 1 (L.map ieD) (.a id 0 L.length 1) := .inr ⟨id, h1, h2, by simpa using h3, by simp, h5⟩
    have := app_one (α := Int) (f := ieD) (k := k) (nt := nt) (fn := fn) (ro := ro) (K := K) (N := N) (bytes := 8) (xs := L) v ieD_len hk (by omega) (by omega) tm hp nx hA
    exact this
theorem rdH_accQ {hp : List (Nat × Blk)} {K N j : Nat} {L : List Int} {d : D} {fl : Bool} (h : AccB hp K N L d fl) (hj : j < K) : rdH (accQ hp d) j = rdH hp j := by
  rcases h with ⟨_, rfl, h3⟩ | ⟨id, h1, h2, h3, rfl, h5⟩
  · rfl
  · have : id ≠ j := by omega
    simp only [accQ, rdH, this, if_false]
theorem rdH_accQ2 {hp : List (Nat × Blk)} {K N j : Nat} {L : List Int} {d : D} {fl : Bool} (h : AccB hp K N L d fl) (hj : (rdH hp j).arr = false) : rdH (accQ hp d) j = rdH hp j := by
  rcases h with ⟨_, rfl, h3⟩ | ⟨id, h1, h2, h3, rfl, h5⟩
  · rfl
  · have : id ≠ j := by intro h; subst h; rw [h5] at hj; cases hj
    simp only [accQ, rdH, this, if_false]
theorem accB_new {hp : List (Nat × Blk)} {K N id len : Nat} {L : List Int} {fl : Bool} (h : K ≤ id) (h2 : id < N) (hl : len = L.length) (hne : L ≠ []) : AccB ((id, ⟨L.map ieD, true, 0, true, none⟩) :: hp) K N L (.a id 0 len 1) fl :=
  .inr ⟨id, h, h2, hne, by rw [hl], by simp only [rdH, if_true]⟩
theorem accB_cons {hp : List (Nat × Blk)} {K N j : Nat} {L : List Int} {d : D} {fl : Bool} (h : AccB hp K N L d fl) (hj : N ≤ j) (b : Blk) : AccB ((j, b) :: hp) K N L d fl := by
  rcases h with h | ⟨id, h1, h2, h3, rfl, h5⟩
  · exact .inl h
  · have : ¬ j = id := by omega
    exact .inr ⟨id, h1, h2, h3, rfl, by simp only [rdH, this, if_false, h5]⟩
theorem accB_mono {hp : List (Nat × Blk)} {K N N' : Nat} {L : List Int} {d : D} {fl : Bool} (h : AccB hp K N L d fl) (hj : N ≤ N') : AccB hp K N' L d fl := by
  rcases h with h | ⟨id, h1, h2, h3, rfl, h5⟩
  · exact .inl h
  · exact .inr ⟨id, h1, by omega, h3, rfl, h5⟩

theorem near_cat (x y : Sl Ln) (h1 : 0 < x.xs.length) (h2 : x.xs.length ≤ 300) (h3 : y.xs.length ≤ 300) (fr : Fr) (hk : fr.k ≤ 41) : ∃ (idv nx0 : Nat) (hp0 : List (Nat × Blk)), (∀ tm, appendD fr 3 24 ⟨tm, [(41, ⟨x.xs.map lne, true, 0, true, none⟩)], 42⟩ (.a 41 0 x.xs.length 3) (y.d lne) = some (.a idv 0 (x.xs ++ y.xs).length 3, ⟨tm, hp0, nx0⟩)) ∧
    rdH hp0 idv = ⟨(x.xs ++ y.xs).map lne, true, 0, true, none⟩ ∧ idv < nx0 := by
  by_cases hy : y.xs = []
  · refine ⟨41, 42, [(41, ⟨x.xs.map lne, true, 0, true, none⟩)], fun tm => ?_, by simp [hy, rdH], by omega⟩
    unfold appendD
    rw [peek_sl, hy]
    have e : appendD.lenOr (D.a 41 0 x.xs.length 3) = x.xs.length := rfl
    simp [e, rdH, hk, sizesOk]
    omega
  · have hA : ∀ tm, Acc (⟨tm, [(41, ⟨x.xs.map lne, true, 0, true, none⟩)], 42⟩ : St).hp 41 42 3 (x.xs.map lne) (.a 41 0 x.xs.length 3) := fun tm => .inr ⟨41, by omega, by omega, by intro h; simp at h; rw [h] at h1; simp at h1, by simp, by simp [rdH]⟩
    refine ⟨42, 43, (42, ⟨(x.xs ++ y.xs).map lne, true, 0, true, none⟩) :: accH [(41, ⟨x.xs.map lne, true, 0, true, none⟩)] (.a 41 0 x.xs.length 3), fun tm => ?_, by simp [rdH], by omega⟩
    rw [app_acc (hA tm) hk (peek_sl _ y) (sizes_map 3 lne_len _) (by simpa using hy) (by simp; omega) (by simp; omega)]
    simp

def mu3 : D → Nat
  | .s (.int _ x) => (3 - x).toNat
  | _ => 0
@[go_sem] theorem mu3_int (k : IntKind) (x : Int) : mu3 (.s (.int k x)) = (3 - x).toNat := rfl
def inR (v : Int) : Prop := 0 ≤ v ∧ v ≤ 10000000000

set_option maxHeartbeats 2000000 in
theorem near15 (x y : Sl Ln) (h1 : 0 < x.xs.length) (h2 : x.xs.length ≤ 300) (h3 : y.xs.length ≤ 300) (hx : ∀ a ∈ x.xs, inR a.f) (hy : ∀ a ∈ y.xs, inR a.f) :
    ∃ L : List Int, (∀ v ∈ L, inR v) ∧ L.length ≤ 10000 ∧ L ≠ [] ∧ callI Try.prog cfg 15 [x.d lne, y.d lne] [] = some ([.a 0 0 L.length 1], [⟨L.map ieD, true, 0, true, none⟩]) := by
  rw [callI_eq Try.func15 rfl rfl]
  obtain ⟨idv, nx0, hp0, hap, hidv, hlt0⟩ := near_cat x y h1 h2 h3 ⟨0, 41, 15, true⟩ (Nat.zero_le _)
  have hcl := app_clone (n := 3) (bytes := 24) x lne_len (by omega) (by omega)
  have hne : x.xs.isEmpty = false := by cases hh : x.xs with | nil => rw [hh] at h1; simp at h1 | cons _ _ => rfl
  have hM : ∀ a ∈ x.xs ++ y.xs, inR a.f := fun a ha => (List.mem_append.1 ha).elim (hx a) (hy a)
  have hn : (x.xs ++ y.xs).length ≤ 600 := by simp; omega
  have hn0 : 0 < (x.xs ++ y.xs).length := by simp; omega
  generalize x.xs ++ y.xs = M at *
  clear h1 h2 h3 hx hy
  simp only [Try.f15, *, go_sem, ↓reduceIte, Nat.reduceAdd, Nat.reduceSub, Nat.reduceMul, Nat.reduceLeDiff, Nat.reduceLT, Nat.reduceEqDiff, Nat.reduceBEq, Int.reduceLT, Int.reduceLE, Int.reduceEq, Int.reduceAdd, Int.reduceNeg, Int.reduceToNat, reduceCtorEq]
  generalize hx : exe _ _ _ (.loop _) _ = r
  obtain ⟨z, s1, rfl, rfl, L, hL1, hL2, hL3⟩ := list_use hx (head0 _ _) M (by omega)
    (fun i (_ : Unit) st => rdT st.tm 17 = .s (.int .i64 (i : Int)) ∧ rdT st.tm 16 = .s (.int .i64 (M.length : Int)) ∧ rdT st.tm 15 = .a idv 0 M.length 3 ∧ rdH st.hp idv = ⟨M.map lne, true, 0, true, none⟩ ∧ nx0 ≤ st.nx ∧
      ∃ L : List Int, (∀ v ∈ L, inR v) ∧ L.length ≤ 3 + 5 * i ∧ AccB st.hp nx0 st.nx L (rdT st.tm 5) (decide (0 < i)))
    (fun _ _ => ()) (fun _ ex st => ex = .exit 0 ∧ ∃ L : List Int, (∀ v ∈ L, inR v) ∧ L.length ≤ 3 + 5 * M.length ∧ AccB st.hp nx0 st.nx L (rdT st.tm 5) true) ()
    (by
      refine ⟨?_, ?_, ?_, ?_, ?_, [0, 1, 10000000000], by simp [inR], by simp, ?_⟩ <;> simp only [*, go_sem, ↓reduceIte, Nat.reduceAdd, Nat.reduceSub, Nat.reduceMul, Nat.reduceLeDiff, Nat.reduceLT, Nat.reduceEqDiff, Nat.reduceBEq, Int.reduceLT, Int.reduceLE, Int.reduceEq, Int.reduceAdd, Int.reduceNeg, Int.reduceToNat, reduceCtorEq]
      exact .inl ⟨rfl, rfl, rfl⟩)
    (by
      clear hx hcl hap hne
      rintro i _ st a l ha hd hlt hw ⟨h17, h16, h15, hH, hnx, L0, hL1, hL2, hL3⟩
      have hi := (List.getElem?_eq_some_iff.1 ha).1
      have m0 : (M.map lne)[i]? = some (lne a) := by simp [ha]
      have hR := hM a (List.mem_of_getElem? ha)
      have n0 : ¬ st.nx = idv := by omega
      simp only [lne] at m0
      clear hM hd
      simp only [*, go_sem, ↓reduceIte, Nat.reduceAdd, Nat.reduceSub, Nat.reduceMul, Nat.reduceLeDiff, Nat.reduceLT, Nat.reduceEqDiff, Nat.reduceBEq, Int.reduceLT, Int.reduceLE, Int.reduceEq, Int.reduceAdd, Int.reduceNeg, Int.reduceToNat, reduceCtorEq, lne]
      generalize hx2 : exe _ _ _ (.loop _) _ = r2
      generalize hpp : st.nx = p at *
      obtain ⟨z2, s2, rfl, rfl, e17, e16, e15, eH, enx, L1, eL1, eL2, eL3⟩ := loop_use hx2 (head0 _ _)
        (fun st2 => rdT st2.tm 17 = .s (.int .i64 (i : Int)) ∧ rdT st2.tm 16 = .s (.int .i64 (M.length : Int)) ∧ rdT st2.tm 15 = .a idv 0 M.length 3 ∧ rdH st2.hp idv = ⟨M.map lne, true, 0, true, none⟩ ∧ rdT st2.tm 7 = .p p 0 0 ∧ rdH st2.hp p = ⟨[[.s (.int .i64 a.f), .s (.int .i64 a.v), .s (.int .i64 a.r)]], false, 0, true, none⟩ ∧ p < st2.nx ∧
          ∃ (k : Int) (L : List Int), rdT st2.tm 8 = .s (.int .i64 k) ∧ -2 ≤ k ∧ k ≤ 3 ∧ (∀ v ∈ L, inR v) ∧ L.length ≤ 3 + 5 * i + (k + 2).toNat ∧ AccB st2.hp nx0 st2.nx L (rdT st2.tm 5) (decide (0 < i) || decide (0 < k)))
        (fun st2 => mu3 (rdT st2.tm 8))
        (fun ex st2 => ex = .exit 2 ∧ rdT st2.tm 17 = .s (.int .i64 (i : Int)) ∧ rdT st2.tm 16 = .s (.int .i64 (M.length : Int)) ∧ rdT st2.tm 15 = .a idv 0 M.length 3 ∧ rdH st2.hp idv = ⟨M.map lne, true, 0, true, none⟩ ∧ nx0 ≤ st2.nx ∧
          ∃ L : List Int, (∀ v ∈ L, inR v) ∧ L.length ≤ 3 + 5 * (i + 1) ∧ AccB st2.hp nx0 st2.nx L (rdT st2.tm 5) true)
        (by
          have n1 : p < p + 1 := by omega
          refine ⟨?_, ?_, ?_, ?_, ?_, ?_, ?_, -2, L0, ?_, by omega, by omega, hL1, by omega, ?_⟩
          case refine_9 =>
            have e : (decide (0 < i) || decide ((0 : Int) < -2)) = decide (0 < i) := by simp
            rw [e]
            simp only [*, go_sem, ↓reduceIte, Nat.reduceAdd, Nat.reduceSub, Nat.reduceMul, Nat.reduceLeDiff, Nat.reduceLT, Nat.reduceEqDiff, Nat.reduceBEq, Int.reduceLT, Int.reduceLE, Int.reduceEq, Int.reduceAdd, Int.reduceNeg, Int.reduceToNat, reduceCtorEq]
            exact accB_mono (accB_cons (accB_cons hL3 (Nat.le_refl _) _) (Nat.le_refl _) _) (Nat.le_succ _)
          all_goals simp only [*, go_sem, ↓reduceIte, Nat.reduceAdd, Nat.reduceSub, Nat.reduceMul, Nat.reduceLeDiff, Nat.reduceLT, Nat.reduceEqDiff, Nat.reduceBEq, Int.reduceLT, Int.reduceLE, Int.reduceEq, Int.reduceAdd, Int.reduceNeg, Int.reduceToNat, reduceCtorEq])
        (by
          clear hx2 hpp h17 h16 h15 hH hL1 hL2 hL3 m0 ha
          rintro st ⟨h17, h16, h15, hH, h7, hp, hpn, k, L, h8, k1, k2, hL1, hL2, hL3⟩
          by_cases hk : k < 3
          case neg =>
            have e : (decide (0 < i) || decide (0 < k)) = true := by simp; omega
            rw [e] at hL3
            have e2 : L.length ≤ 3 + 5 * (i + 1) := by omega
            have e3 : nx0 ≤ st.nx := by omega
            clear hL2 hnx hpn
            simp only [*, go_sem, ↓reduceIte, Nat.reduceAdd, Nat.reduceSub, Nat.reduceMul, Nat.reduceLeDiff, Nat.reduceLT, Nat.reduceEqDiff, Nat.reduceBEq, Int.reduceLT, Int.reduceLE, Int.reduceEq, Int.reduceAdd, Int.reduceNeg, Int.reduceToNat, reduceCtorEq]
            exact ⟨L, hL1, e2, hL3⟩
          generalize h5 : rdT st.tm 5 = d at hL3
          have w1 : IntKind.i64.wrap (k + 1) = k + 1 := wrap_ok (by omega) (by omega)
          have e5 : (3 - (k + 1)).toNat < (3 - k).toNat := by omega
          have hap := fun tm => accB_app (k := 0) (nt := 41) (fn := 15) (ro := true) (IntKind.i64.wrap (a.f + k)) (Nat.zero_le _) (by omega) tm st.hp st.nx hL3
          have hq1 : rdH (accQ st.hp d) idv = ⟨M.map lne, true, 0, true, none⟩ := by rw [rdH_accQ hL3 hlt0]; exact hH
          have hq2 : rdH (accQ st.hp d) p = ⟨[[.s (.int .i64 a.f), .s (.int .i64 a.v), .s (.int .i64 a.r)]], false, 0, true, none⟩ := by rw [rdH_accQ2 hL3 (by rw [hp])]; exact hp
          have n1 : ¬ st.nx = idv := by omega
          have n2 : ¬ st.nx = p := by omega
          have n3 : p < st.nx + 1 := by omega
          have hv : k = 0 → 0 ≤ IntKind.i64.wrap (a.f + k) ∧ IntKind.i64.wrap (a.f + k) ≤ 10000000000 := fun h => by
            subst h
            rw [Int.add_zero, wrap_ok (by have := hR.1; omega) (by have := hR.2; omega)]
            exact hR
          generalize hv0 : IntKind.i64.wrap (a.f + k) = v at hv hap
          have hno : (¬ 0 ≤ v ∨ ¬ v ≤ 10000000000) → AccB st.hp nx0 st.nx L d (decide (0 < i) || decide (0 < k + 1)) := fun h => by
            have : ¬ k = 0 := fun hk0 => by have := hv hk0; omega
            have e : decide (0 < k + 1) = decide (0 < k) := by
              by_cases h0 : 0 < k
              · rw [decide_eq_true h0]; exact decide_eq_true (by omega)
              · rw [decide_eq_false h0]; exact decide_eq_false (by omega)
            rw [e]; exact hL3
          have e6 : -2 ≤ k + 1 := by omega
          have e7 : k + 1 ≤ 3 := by omega
          have e8 : L.length ≤ 3 + 5 * i + (k + 1 + 2).toNat := by omega
          have e9 : L.length + 1 ≤ 3 + 5 * i + (k + 1 + 2).toNat := by omega
          have e10 : nx0 ≤ st.nx := by omega
          by_cases c1 : 0 ≤ v
          · by_cases c2 : v ≤ 10000000000
            · clear hno hv hL3 hR hnx hL2 n0
              simp only [*, go_sem, ↓reduceIte, Nat.reduceAdd, Nat.reduceSub, Nat.reduceMul, Nat.reduceLeDiff, Nat.reduceLT, Nat.reduceEqDiff, Nat.reduceBEq, Int.reduceLT, Int.reduceLE, Int.reduceEq, Int.reduceAdd, Int.reduceNeg, Int.reduceToNat, reduceCtorEq]
              refine ⟨k + 1, rfl, e6, e7, L ++ [v], ?_, ?_, accB_new e10 (by omega) (by simp) (by simp)⟩
              · intro u hu
                rcases List.mem_append.1 hu with hu | hu
                · exact hL1 u hu
                · simp at hu; subst hu; exact ⟨c1, c2⟩
              · simpa using e9
            · have hno2 := hno (.inr c2)
              clear hno hv hL3 hR hnx hL2 n0 hap
              simp only [*, go_sem, ↓reduceIte, Nat.reduceAdd, Nat.reduceSub, Nat.reduceMul, Nat.reduceLeDiff, Nat.reduceLT, Nat.reduceEqDiff, Nat.reduceBEq, Int.reduceLT, Int.reduceLE, Int.reduceEq, Int.reduceAdd, Int.reduceNeg, Int.reduceToNat, reduceCtorEq]
              exact ⟨k + 1, rfl, e6, e7, L, hL1, e8, hno2⟩
          · have hno2 := hno (.inl c1)
            clear hno hv hL3 hR hnx hL2 n0 hap
            simp only [*, go_sem, ↓reduceIte, Nat.reduceAdd, Nat.reduceSub, Nat.reduceMul, Nat.reduceLeDiff, Nat.reduceLT, Nat.reduceEqDiff, Nat.reduceBEq, Int.reduceLT, Int.reduceLE, Int.reduceEq, Int.reduceAdd, Int.reduceNeg, Int.reduceToNat, reduceCtorEq]
            exact ⟨k + 1, rfl, e6, e7, L, hL1, e8, hno2⟩)
      clear hx2
      have e1 : decide (0 < i + 1) = true := decide_eq_true (by omega)
      rw [← e1] at eL3
      clear hL1 hL2 hL3 h17 h16 h15 hH m0 ha hR
      simp only [*, go_sem, ↓reduceIte, Nat.reduceAdd, Nat.reduceSub, Nat.reduceMul, Nat.reduceLeDiff, Nat.reduceLT, Nat.reduceEqDiff, Nat.reduceBEq, Int.reduceLT, Int.reduceLE, Int.reduceEq, Int.reduceAdd, Int.reduceNeg, Int.reduceToNat, reduceCtorEq]
      exact ⟨L1, eL1, eL2, eL3⟩)
    (by
      clear hx hcl hap hne
      rintro _ st ⟨h17, h16, h15, hH, hnx, L0, hL1, hL2, hL3⟩
      have : decide (0 < M.length) = true := decide_eq_true hn0
      rw [this] at hL3
      clear hM
      simp only [*, go_sem, ↓reduceIte, Nat.reduceAdd, Nat.reduceSub, Nat.reduceMul, Nat.reduceLeDiff, Nat.reduceLT, Nat.reduceEqDiff, Nat.reduceBEq, Int.reduceLT, Int.reduceLE, Int.reduceEq, Int.reduceAdd, Int.reduceNeg, Int.reduceToNat, reduceCtorEq, Int.lt_irrefl]
      exact ⟨L0, hL1, hL2, hL3⟩)
  clear hx hap hcl
  rcases hL3 with ⟨h, _⟩ | ⟨id, q1, q2, q3, q4, q5⟩
  · cases h
  refine ⟨L, hL1, by omega, q3, ?_⟩
  clear hM hL1 hL2 hn hn0 q3
  simp only [*, go_sem, ↓reduceIte, Nat.reduceAdd, Nat.reduceSub, Nat.reduceMul, Nat.reduceLeDiff, Nat.reduceLT, Nat.reduceEqDiff, Nat.reduceBEq, Int.reduceLT, Int.reduceLE, Int.reduceEq, Int.reduceAdd, Int.reduceNeg, Int.reduceToNat, reduceCtorEq]

end Go.Proofs.Ytenldcieoalgoaa
end

section
/-
  A function that is shifted; the steepest pieces.
-/
namespace Go.Proofs.Ytenldcieoalgoaa
open Go Vm
set_option maxRecDepth 4000
set_option linter.unusedSimpArgs false
set_option linter.unusedVariables false

def mx0 (x : Int) : Int := if 0 < x then x else 0
/-- A piece that is shifted. -/
def shG (d : Int) (l : Ln) : Ln := ⟨mx0 (IntKind.i64.wrap (l.f - d)), atF l (IntKind.i64.wrap (mx0 (IntKind.i64.wrap (l.f - d)) + d)), l.r⟩
def shO (d : Int) (xs : List Ln) : List Ln := (xs.drop (fnd d xs)).map (shG d)
def shE (d : Int) (xs : List Ln) : Int := if ckF xs = 0 then (if d < 0 then 1 else if 10000000000 < d then 1 else ckF (joinL [] (shO d xs))) else ckF xs
def shR (d : Int) (xs : List Ln) : List Ln := if shE d xs = 0 then joinL [] (shO d xs) else []

theorem accS_l {l : List Ln} (h : l.length ≠ 0) : ∃ L, (accS l).d lne = .l none L := by
  cases l with
  | nil => exact absurd rfl h
  | cons a r => exact ⟨_, rfl⟩

@[go_sem] theorem shift22 (x : Sl Ln) (hlen : x.xs.length < 9223372036854775808) (d : Int) : callI Try.prog cfg 22 [x.d lne, .s (.int .i64 d)] [] = some ([(accS (shR d x.xs)).d lne, .s (.int .i64 (shE d x.xs))], []) := by
  rw [callI_eq Try.func22 rfl rfl]
  have hnil : (accS ([] : List Ln)).d lne = nilS := rfl
  by_cases hc : ckF x.xs = 0
  case neg =>
    have e1 : shE d x.xs = ckF x.xs := if_neg hc
    have e2 : shR d x.xs = [] := by unfold shR; rw [e1, if_neg hc]
    simp only [Try.f22, *, go_sem, ↓reduceIte, Nat.reduceAdd, Nat.reduceSub, Nat.reduceMul, Nat.reduceLeDiff, Nat.reduceLT, Nat.reduceEqDiff, Nat.reduceBEq, Int.reduceLT, Int.reduceLE, Int.reduceEq, Int.reduceAdd, Int.reduceNeg, Int.reduceToNat, reduceCtorEq]
  have g := ckF_ok hc
  by_cases h1 : d < 0
  · have e1 : shE d x.xs = 1 := by unfold shE; rw [if_pos hc, if_pos h1]
    have e2 : shR d x.xs = [] := by unfold shR; rw [e1]; rfl
    simp only [Try.f22, *, go_sem, ↓reduceIte, Nat.reduceAdd, Nat.reduceSub, Nat.reduceMul, Nat.reduceLeDiff, Nat.reduceLT, Nat.reduceEqDiff, Nat.reduceBEq, Int.reduceLT, Int.reduceLE, Int.reduceEq, Int.reduceAdd, Int.reduceNeg, Int.reduceToNat, reduceCtorEq]
  by_cases h2 : 10000000000 < d
  · have e1 : shE d x.xs = 1 := by unfold shE; rw [if_pos hc, if_neg h1, if_pos h2]
    have e2 : shR d x.xs = [] := by unfold shR; rw [e1]; rfl
    simp only [Try.f22, *, go_sem, ↓reduceIte, Nat.reduceAdd, Nat.reduceSub, Nat.reduceMul, Nat.reduceLeDiff, Nat.reduceLT, Nat.reduceEqDiff, Nat.reduceBEq, Int.reduceLT, Int.reduceLE, Int.reduceEq, Int.reduceAdd, Int.reduceNeg, Int.reduceToNat, reduceCtorEq]
  have e1 : shE d x.xs = ckF (joinL [] (shO d x.xs)) := by unfold shE; rw [if_pos hc, if_neg h1, if_neg h2]
  have hf := find25 x d g.most g.sort
  have hlt := fnd_lt (x := d) g
  have hm := g.most
  have hlen2 : (shO d x.xs).length ≤ 1000000 := by unfold shO; simp; omega
  have hd31 := done31 (accS (shO d x.xs)) (by rw [accS_xs]; exact hlen2)
  rw [accS_xs] at hd31
  have hO : shO d x.xs = (x.xs.drop (fnd d x.xs)).map (shG d) := rfl
  generalize fnd d x.xs = k at *
  have hcut := fun dr hp => cut_lo (P := Try.prog) (t := 23) (dr := dr) (by kernel_rfl) lne_len hp x .i64 k (by omega)
  have hcx : (x.cut k x.xs.length).xs = x.xs.drop k := by rw [Sl.cut_xs, List.take_length]
  generalize x.cut k x.xs.length = s at hcut hcx
  rw [← hcx] at hO
  have hs : s.xs.length ≤ 256 := by rw [hcx]; simp; omega
  replace hO : Unit → shO d x.xs = s.xs.map (shG d) := fun _ => hO
  clear g hcx
  simp only [Try.f22, *, go_sem, ↓reduceIte, Nat.reduceAdd, Nat.reduceSub, Nat.reduceMul, Nat.reduceLeDiff, Nat.reduceLT, Nat.reduceEqDiff, Nat.reduceBEq, Int.reduceLT, Int.reduceLE, Int.reduceEq, Int.reduceAdd, Int.reduceNeg, Int.reduceToNat, reduceCtorEq]
  generalize hx : exe _ _ _ (.loop _) _ = r
  obtain ⟨z, s1, rfl, hp⟩ := list_use hx (head0 _ _) s.xs (by omega)
    (fun i (b : List Ln) st => rdT st.tm 28 = .s (.int .i64 (i : Int)) ∧ rdT st.tm 27 = .s (.int .i64 (s.xs.length : Int)) ∧ rdT st.tm 26 = s.d lne ∧ rdT st.tm 1 = .s (.int .i64 d) ∧ b.length = i ∧ Acc st.hp 0 st.nx 3 (b.map lne) (rdT st.tm 7))
    (fun b l => b ++ l.map (shG d))
    (fun r ex st2 => ex = .exit 0 ∧ Acc st2.hp 0 st2.nx 3 (r.map lne) (rdT st2.tm 7)) []
    (by simp only [*, go_sem, ↓reduceIte, Nat.reduceAdd, Nat.reduceSub, Nat.reduceMul, Nat.reduceLeDiff, Nat.reduceLT, Nat.reduceEqDiff, Nat.reduceBEq, Int.reduceLT, Int.reduceLE, Int.reduceEq, Int.reduceAdd, Int.reduceNeg, Int.reduceToNat, reduceCtorEq]; exact acc_nil _ _ _ _) (by
      clear hx hd31 hO hlen2 e1
      rintro i b st a l ha hd hlt hw ⟨h28, h27, h26, h1, hbl, hacc⟩
      generalize h7 : rdT st.tm 7 = dd at hacc
      have hi := (List.getElem?_eq_some_iff.1 ha).1
      have happ := app_one (α := Ln) (f := lne) (k := 0) (nt := 54) (fn := 22) (ro := true) (K := 0) (N := st.nx) (bytes := 24) (xs := b) (d := dd) (shG d a) lne_len (Nat.zero_le _) (by omega) (by omega)
      have ke := at26 a (IntKind.i64.wrap (mx0 (IntKind.i64.wrap (a.f - d)) + d))
      have kw : (if 0 < IntKind.i64.wrap (a.f - d) then IntKind.i64.wrap (a.f - d) else 0) = mx0 (IntKind.i64.wrap (a.f - d)) := rfl
      simp only [lne] at ke
      simp only [lne, shG] at happ
      clear hd hlen hs hf
      simp only [*, go_sem, ↓reduceIte, Nat.reduceAdd, Nat.reduceSub, Nat.reduceMul, Nat.reduceLeDiff, Nat.reduceLT, Nat.reduceEqDiff, Nat.reduceBEq, Int.reduceLT, Int.reduceLE, Int.reduceEq, Int.reduceAdd, Int.reduceNeg, Int.reduceToNat, reduceCtorEq, lne]
      refine ⟨b ++ [shG d a], ?_⟩
      simp only [List.length_append, List.length_cons, List.length_nil, List.append_assoc, List.cons_append, List.nil_append, hbl, and_true, true_and]
      exact acc_new (Nat.zero_le _) (by omega) (by simp; omega) (by simp))
    (by
      clear hx hd31 hO hlen2 e1
      rintro b st ⟨h28, h27, h26, h1, hbl, hacc⟩
      simp only [*, go_sem, ↓reduceIte, Nat.reduceAdd, Nat.reduceSub, Nat.reduceMul, Nat.reduceLeDiff, Nat.reduceLT, Nat.reduceEqDiff, Nat.reduceBEq, Int.reduceLT, Int.reduceLE, Int.reduceEq, Int.reduceAdd, Int.reduceNeg, Int.reduceToNat, reduceCtorEq, Int.lt_irrefl])
  clear hx
  obtain ⟨rfl, p2⟩ := hp
  generalize hd3 : rdT s1.tm 7 = dd at p2
  rw [List.nil_append, ← hO ()] at p2
  have f1 := frzG_acc p2
  have f2 := acc_sl p2
  by_cases hz : ckF (joinL [] (shO d x.xs)) = 0
  · have e2 : shR d x.xs = joinL [] (shO d x.xs) := by unfold shR; rw [e1, if_pos hz]
    obtain ⟨L, hL⟩ := accS_l (ckF_ok hz).ne
    rw [if_pos hz, hL] at hd31
    clear hO hlen2 p2
    simp only [*, go_sem, ↓reduceIte, Nat.reduceAdd, Nat.reduceSub, Nat.reduceMul, Nat.reduceLeDiff, Nat.reduceLT, Nat.reduceEqDiff, Nat.reduceBEq, Int.reduceLT, Int.reduceLE, Int.reduceEq, Int.reduceAdd, Int.reduceNeg, Int.reduceToNat, reduceCtorEq]
  · have e2 : shR d x.xs = [] := by unfold shR; rw [e1, if_neg hz]
    rw [if_neg hz] at hd31
    clear hO hlen2 p2
    simp only [*, go_sem, ↓reduceIte, Nat.reduceAdd, Nat.reduceSub, Nat.reduceMul, Nat.reduceLeDiff, Nat.reduceLT, Nat.reduceEqDiff, Nat.reduceBEq, Int.reduceLT, Int.reduceLE, Int.reduceEq, Int.reduceAdd, Int.reduceNeg, Int.reduceToNat, reduceCtorEq]

/-- The steepest pieces, of those of more than one number. -/
def stF : Int × Int × Bool → List Ln → Int × Int
  | (m, l, _), [] => (m, l)
  | (m, l, s), a :: r => if endF r = a.f then stF (m, l, s) r else if s = true then stF (if m < a.r then a.r else m, if a.r < l then a.r else l, true) r else stF (a.r, a.r, true) r

@[go_sem] theorem steepest23 (xs : Sl Ln) (hlen : xs.xs.length < 9223372036854775808) : callI Try.prog cfg 23 [xs.d lne] [] = some ([.s (.int .i64 (stF (0, 0, false) xs.xs).1), .s (.int .i64 (stF (0, 0, false) xs.xs).2)], []) := by
  rw [callI_eq Try.func23 rfl rfl]
  simp only [Try.f23, *, go_sem, ↓reduceIte, Nat.reduceAdd, Nat.reduceSub, Nat.reduceMul, Nat.reduceLeDiff, Nat.reduceLT, Nat.reduceEqDiff, Nat.reduceBEq, Int.reduceLT, Int.reduceLE, Int.reduceEq, Int.reduceAdd, Int.reduceNeg, Int.reduceToNat, reduceCtorEq]
  generalize hx : exe _ _ _ (.loop _) _ = r
  obtain ⟨z, s1, rfl, hp⟩ := list_use hx (head0 _ _) xs.xs hlen
    (fun i (b : Int × Int × Bool) st => rdT st.tm 11 = .s (.int .i64 (i : Int)) ∧ rdT st.tm 10 = .s (.int .i64 (xs.xs.length : Int)) ∧ rdT st.tm 9 = xs.d lne ∧ rdT st.tm 0 = xs.d lne ∧ rdT st.tm 4 = .s (.int .i64 b.1) ∧ rdT st.tm 5 = .s (.int .i64 b.2.1) ∧ rdT st.tm 6 = .s (.bool b.2.2))
    stF (fun r x st2 => x = .exit 0 ∧ rdT st2.tm 4 = .s (.int .i64 r.1) ∧ rdT st2.tm 5 = .s (.int .i64 r.2)) (0, 0, false)
    (by simp only [*, go_sem, ↓reduceIte, Nat.reduceAdd, Nat.reduceSub, Nat.reduceMul, Nat.reduceLeDiff, Nat.reduceLT, Nat.reduceEqDiff, Nat.reduceBEq, Int.reduceLT, Int.reduceLE, Int.reduceEq, Int.reduceAdd, Int.reduceNeg, Int.reduceToNat, reduceCtorEq]) (by
      clear hx
      rintro i ⟨m, lo, s⟩ st a rest ha hd hlt hw ⟨h11, h10, h9, h0, h4, h5, h6⟩
      dsimp only at h4 h5 h6 ⊢
      have hi : i < xs.xs.length := by omega
      have k := end28 xs hlen i hi
      have hd2 : xs.xs.drop (i + 1) = rest := by rw [← List.drop_drop, hd]; rfl
      rw [hd2] at k
      clear hd2
      by_cases c1 : endF rest = a.f
      · have hF : stF (m, lo, s) (a :: rest) = stF (m, lo, s) rest := by simp only [stF, c1, if_true]
        replace c1 := eq_true c1
        simp only [*, go_sem, ↓reduceIte, Nat.reduceAdd, Nat.reduceSub, Nat.reduceMul, Nat.reduceLeDiff, Nat.reduceLT, Nat.reduceEqDiff, Nat.reduceBEq, Int.reduceLT, Int.reduceLE, Int.reduceEq, Int.reduceAdd, Int.reduceNeg, Int.reduceToNat, reduceCtorEq, lne]
        exact ⟨(m, lo, s), ⟨rfl, rfl, rfl⟩, rfl⟩
      · cases s with
        | true =>
          have hF : stF (m, lo, true) (a :: rest) = stF (if m < a.r then a.r else m, if a.r < lo then a.r else lo, true) rest := by simp only [stF, c1, if_false, if_true]
          by_cases c2 : m < a.r <;> by_cases c3 : a.r < lo <;> simp only [c2, c3, if_true, if_false] at hF <;> simp only [*, go_sem, ↓reduceIte, Nat.reduceAdd, Nat.reduceSub, Nat.reduceMul, Nat.reduceLeDiff, Nat.reduceLT, Nat.reduceEqDiff, Nat.reduceBEq, Int.reduceLT, Int.reduceLE, Int.reduceEq, Int.reduceAdd, Int.reduceNeg, Int.reduceToNat, reduceCtorEq, lne]
          · exact ⟨(_, _, true), ⟨rfl, rfl, rfl⟩, rfl⟩
          · exact ⟨(_, _, true), ⟨rfl, rfl, rfl⟩, rfl⟩
          · exact ⟨(_, _, true), ⟨rfl, rfl, rfl⟩, rfl⟩
          · exact ⟨(_, _, true), ⟨rfl, rfl, rfl⟩, rfl⟩
        | false =>
          have hF : stF (m, lo, false) (a :: rest) = stF (a.r, a.r, true) rest := by simp [stF, c1]
          simp only [*, go_sem, ↓reduceIte, Nat.reduceAdd, Nat.reduceSub, Nat.reduceMul, Nat.reduceLeDiff, Nat.reduceLT, Nat.reduceEqDiff, Nat.reduceBEq, Int.reduceLT, Int.reduceLE, Int.reduceEq, Int.reduceAdd, Int.reduceNeg, Int.reduceToNat, reduceCtorEq, lne, Int.lt_irrefl]
          exact ⟨(_, _, true), ⟨rfl, rfl, rfl⟩, rfl⟩)
    (by
      clear hx
      rintro ⟨m, lo, s⟩ st ⟨h11, h10, h9, h0, h4, h5, h6⟩
      simp only [*, go_sem, ↓reduceIte, Nat.reduceAdd, Nat.reduceSub, Nat.reduceMul, Nat.reduceLeDiff, Nat.reduceLT, Nat.reduceEqDiff, Nat.reduceBEq, Int.reduceLT, Int.reduceLE, Int.reduceEq, Int.reduceAdd, Int.reduceNeg, Int.reduceToNat, reduceCtorEq, Int.lt_irrefl, stF])
  clear hx
  obtain ⟨rfl, h1, h2⟩ := hp
  simp only [*, go_sem, ↓reduceIte, Nat.reduceAdd, Nat.reduceSub, Nat.reduceMul, Nat.reduceLeDiff, Nat.reduceLT, Nat.reduceEqDiff, Nat.reduceBEq, Int.reduceLT, Int.reduceLE, Int.reduceEq, Int.reduceAdd, Int.reduceNeg, Int.reduceToNat, reduceCtorEq]

end Go.Proofs.Ytenldcieoalgoaa
end

section
/-
  Functions that are the same: the walk.
-/
namespace Go.Proofs.Ytenldcieoalgoaa
open Go Vm
set_option maxRecDepth 4000
set_option linter.unusedSimpArgs false
set_option linter.unusedVariables false

/-- Up to where a number goes, of those behind it. -/
def enD : List Int → Int
  | [] => 10000000000
  | v :: _ => IntKind.i64.wrap (v - 1)

theorem same24 (x y : Sl Ln) (gx : Okf x.xs) (gy : Okf y.xs) (hcx : ckF x.xs = 0) (hcy : ckF y.xs = 0) (hs : ∀ i v a b, (frF x.xs y.xs)[i]? = some v → x.xs[fnd v x.xs]? = some a → y.xs[fnd v y.xs]? = some b →
    atF a v = atF b v ∧ atF a (enD ((frF x.xs y.xs).drop (i + 1))) = atF b (enD ((frF x.xs y.xs).drop (i + 1)))) (hl : (frF x.xs y.xs).length ≤ 1000) : callI Try.prog cfg 24 [x.d lne, y.d lne] [] = some ([.s (.bool true)], []) := by
  rw [callI_eq Try.func24 rfl rfl]
  have hf := froms30 x y (by have := gx.most; omega) (by have := gy.most; omega) (by have := gx.ne; omega) (by have := gy.ne; omega)
  have hb := both29 x y (by have := gx.most; omega) (by have := gy.most; omega)
  have hb0 : boF x.xs y.xs = 0 := by unfold boF; rw [if_pos hcx, hcy]
  rw [hb0] at hb
  generalize frF x.xs y.xs = L at *
  clear hcx hcy hb0
  have hw1 : ∀ v, callI Try.prog cfg 25 [x.d lne, .s (.int .i64 v)] [] = some ([.s (.int .i64 (fnd v x.xs : Nat))], []) := fun v => find25 x v gx.most gx.sort
  have hw2 : ∀ v, callI Try.prog cfg 25 [y.d lne, .s (.int .i64 v)] [] = some ([.s (.int .i64 (fnd v y.xs : Nat))], []) := fun v => find25 y v gy.most gy.sort
  replace hs : Unit → _ := fun _ => hs
  have gx' : Unit → Okf x.xs := fun _ => gx
  have gy' : Unit → Okf y.xs := fun _ => gy
  clear gx gy
  simp only [Try.f24, *, go_sem, ↓reduceIte, Nat.reduceAdd, Nat.reduceSub, Nat.reduceMul, Nat.reduceLeDiff, Nat.reduceLT, Nat.reduceEqDiff, Nat.reduceBEq, Int.reduceLT, Int.reduceLE, Int.reduceEq, Int.reduceAdd, Int.reduceNeg, Int.reduceToNat, reduceCtorEq]
  generalize hx : exe _ _ _ (.loop _) _ = r
  obtain ⟨z, s1, rfl, hp⟩ := list_use hx (head0 _ _) L (by omega)
    (fun i (_ : Unit) st => rdT st.tm 20 = .s (.int .i64 (i : Int)) ∧ rdT st.tm 19 = .s (.int .i64 (L.length : Int)) ∧ rdT st.tm 18 = (Sl.l none L).d ieD ∧ rdT st.tm 5 = (Sl.l none L).d ieD ∧ rdT st.tm 0 = x.d lne ∧ rdT st.tm 1 = y.d lne)
    (fun _ _ => ()) (fun _ ex st => ex = .exit 0) ()
    (by simp only [*, go_sem, ↓reduceIte, Nat.reduceAdd, Nat.reduceSub, Nat.reduceMul, Nat.reduceLeDiff, Nat.reduceLT, Nat.reduceEqDiff, Nat.reduceBEq, Int.reduceLT, Int.reduceLE, Int.reduceEq, Int.reduceAdd, Int.reduceNeg, Int.reduceToNat, reduceCtorEq]) (by
      clear hx hf hb
      rintro i _ st v rest ha hd hlt hw ⟨h20, h19, h18, h5, h0, h1⟩
      have hi : i < L.length := by omega
      have hd2 : L.drop (i + 1) = rest := by rw [← List.drop_drop, hd]; rfl
      obtain ⟨a, hxa⟩ : ∃ a, x.xs[fnd v x.xs]? = some a := ⟨_, List.getElem?_eq_getElem (fnd_lt (gx' ()))⟩
      obtain ⟨b, hyb⟩ : ∃ b, y.xs[fnd v y.xs]? = some b := ⟨_, List.getElem?_eq_getElem (fnd_lt (gy' ()))⟩
      have hv := hs () i v a b ha hxa hyb
      rw [hd2] at hv
      obtain ⟨hv1, hv2⟩ := hv
      have hL : L.length = i + 1 + rest.length := by
        have := congrArg List.length hd
        simp at this
        omega
      have ka := at26 a v
      have kb := at26 b v
      have ka2 := at26 a (enD rest)
      have kb2 := at26 b (enD rest)
      rw [hv1] at ka
      rw [hv2] at ka2
      simp only [lne] at ka kb ka2 kb2
      have k1 := hw1 v
      have k2 := hw2 v
      generalize fnd v x.xs = i1 at k1 hxa
      generalize fnd v y.xs = i2 at k2 hyb
      have m0 : (L.map ieD)[i]? = some (ieD v) := by simp [ha]
      cases rest with
      | nil =>
        have h4 : ¬ ((i + 1 : Nat) : Int) < (L.length : Int) := by simp at hL; omega
        clear hd hd2 hL hi hs gx' gy' hw1 hw2 hv1 hv2
        simp only [enD] at ka2 kb2
        simp only [*, go_sem, ↓reduceIte, Nat.reduceAdd, Nat.reduceSub, Nat.reduceMul, Nat.reduceLeDiff, Nat.reduceLT, Nat.reduceEqDiff, Nat.reduceBEq, Int.reduceLT, Int.reduceLE, Int.reduceEq, Int.reduceAdd, Int.reduceNeg, Int.reduceToNat, reduceCtorEq, lne, ieD, enD, decide_true, Bool.not_true]
      | cons w rest =>
        have h4 : ((i + 1 : Nat) : Int) < (L.length : Int) := by simp at hL; omega
        have h6 : L[i + 1]? = some w := by
          have : (L.drop i)[1]? = some w := by rw [hd]; rfl
          simpa using this
        clear hd hd2 hL hi hs gx' gy' hw1 hw2 hv1 hv2
        simp only [enD] at ka2 kb2
        simp only [*, go_sem, ↓reduceIte, Nat.reduceAdd, Nat.reduceSub, Nat.reduceMul, Nat.reduceLeDiff, Nat.reduceLT, Nat.reduceEqDiff, Nat.reduceBEq, Int.reduceLT, Int.reduceLE, Int.reduceEq, Int.reduceAdd, Int.reduceNeg, Int.reduceToNat, reduceCtorEq, lne, ieD, enD, decide_true, Bool.not_true])
    (by
      clear hx hf hb
      rintro _ st ⟨h20, h19, h18, h5, h0, h1⟩
      simp only [*, go_sem, ↓reduceIte, Nat.reduceAdd, Nat.reduceSub, Nat.reduceMul, Nat.reduceLeDiff, Nat.reduceLT, Nat.reduceEqDiff, Nat.reduceBEq, Int.reduceLT, Int.reduceLE, Int.reduceEq, Int.reduceAdd, Int.reduceNeg, Int.reduceToNat, reduceCtorEq, Int.lt_irrefl])
  clear hx hf hb hs
  subst hp
  simp only [*, go_sem, ↓reduceIte, Nat.reduceAdd, Nat.reduceSub, Nat.reduceMul, Nat.reduceLeDiff, Nat.reduceLT, Nat.reduceEqDiff, Nat.reduceBEq, Int.reduceLT, Int.reduceLE, Int.reduceEq, Int.reduceAdd, Int.reduceNeg, Int.reduceToNat, reduceCtorEq]

end Go.Proofs.Ytenldcieoalgoaa
end

section
/-
  What join keeps; what stands between two numbers at which pieces begin: plain.
-/
namespace Go.Proofs.Ytenldcieoalgoaa
open Go Vm
set_option linter.unusedSimpArgs false
set_option linter.unusedVariables false

/-! Sums that are cut off -/
def Cg (a b : Int) : Prop := ∃ k, a = b + 18446744073709551616 * k
theorem wrap_cg {a b : Int} (h : Cg a b) : IntKind.i64.wrap a = IntKind.i64.wrap b := by
  obtain ⟨k, rfl⟩ := h
  rw [IntKind.wrap_i64, IntKind.wrap_i64]
  omega
theorem cg_wrap (a : Int) : Cg (IntKind.i64.wrap a) a := by
  rw [IntKind.wrap_i64]
  exact ⟨(((a + 9223372036854775808) % 18446744073709551616 - 9223372036854775808) - a) / 18446744073709551616, by omega⟩
theorem Cg.symm {a b : Int} (h : Cg a b) : Cg b a := by obtain ⟨k, rfl⟩ := h; exact ⟨-k, by omega⟩
theorem Cg.refl (a : Int) : Cg a a := ⟨0, by omega⟩
theorem Cg.trans {a b c : Int} (h : Cg a b) (h2 : Cg b c) : Cg a c := by obtain ⟨k, rfl⟩ := h; obtain ⟨j, rfl⟩ := h2; exact ⟨k + j, by omega⟩
theorem Cg.add {a b c d : Int} (h : Cg a b) (h2 : Cg c d) : Cg (a + c) (b + d) := by obtain ⟨k, rfl⟩ := h; obtain ⟨j, rfl⟩ := h2; exact ⟨k + j, by omega⟩
theorem Cg.mul {a b : Int} (h : Cg a b) (c : Int) : Cg (a * c) (b * c) := by
  obtain ⟨k, rfl⟩ := h
  exact ⟨k * c, by rw [Int.add_mul, Int.mul_assoc]⟩
theorem atF_eq (l : Ln) (x : Int) : atF l x = IntKind.i64.wrap (l.v + (x - l.f) * l.r) := by
  unfold atF
  exact wrap_cg ((Cg.refl _).add ((cg_wrap _).trans ((cg_wrap _).mul _)))
theorem atF_cg (l : Ln) (x : Int) : Cg (atF l x) (l.v + (x - l.f) * l.r) := by rw [atF_eq]; exact cg_wrap _
/-- A piece that goes on as another one does is the same line. -/
theorem atF_line {q l : Ln} (hr : q.r = l.r) (hv : atF q l.f = l.v) (x : Int) : atF q x = atF l x := by
  rw [atF_eq q x, atF_eq l x]
  apply wrap_cg
  have h := atF_cg q l.f
  rw [hv] at h
  have e : q.v + (x - q.f) * q.r = (q.v + (l.f - q.f) * q.r) + (x - l.f) * l.r := by
    rw [← hr, Int.add_assoc, ← Int.add_mul]
    congr 2
    omega
  rw [e]
  exact h.symm.add (Cg.refl _)

theorem atL_app (x : Int) : ∀ (p q : List Ln) (o : Int), atL x o (p ++ q) = atL x (atL x o p) q
  | [], q, o => rfl
  | a :: r, q, o => by
    simp only [List.cons_append, atL]
    split <;> exact atL_app x r q _
theorem atL_snoc (x : Int) (p : List Ln) (a : Ln) (o : Int) : atL x o (p ++ [a]) = if a.f ≤ x then atF a x else atL x o p := by
  rw [atL_app]; simp only [atL]

def Na (b : List Ln) : Prop := ∀ i q l, b[i]? = some q → b[i + 1]? = some l → ¬ (q.r = l.r ∧ atF q l.f = l.v)
structure JInv (p b : List Ln) : Prop where
  sub : b.Sublist p
  val : ∀ x, atL x 0 b = atL x 0 p
  hd : b.head? = p.head?
  last : ∀ q, b.getLast? = some q → ∃ a, p.getLast? = some a ∧ a.r = q.r ∧ ∀ x, atF q x = atF a x
  na : Na b
theorem jinv_step {p b : List Ln} {a : Ln} (h : JInv p b) (hs : (p ++ [a]).Pairwise (fun a b => a.f < b.f)) : JInv (p ++ [a]) (if jn b a = true then b else b ++ [a]) := by
  have hlt : ∀ q ∈ p, q.f < a.f := fun q hq => (List.pairwise_append.1 hs).2.2 q hq a (by simp)
  by_cases hj : jn b a = true
  · rw [if_pos hj]
    unfold jn at hj
    split at hj
    · cases hj
    rename_i q hq
    simp at hj
    obtain ⟨hr, hv⟩ := hj
    have hqb : q ∈ b := List.mem_of_getLast? hq
    have hqp := h.sub.subset hqb
    obtain ⟨b', rfl⟩ : ∃ b', b = b' ++ [q] := List.getLast?_eq_some_iff.1 hq
    refine ⟨h.sub.trans (List.sublist_append_left _ _), fun x => ?_, ?_, fun q2 hq2 => ?_, h.na⟩
    · rw [atL_snoc x p a]
      split
      · rename_i hx
        have := hlt q hqp
        rw [atL_snoc, if_pos (by omega)]
        exact atF_line hr hv x
      · exact h.val x
    · rw [h.hd]
      cases p with
      | nil => simp at hqp
      | cons _ _ => rfl
    · simp at hq2; subst hq2
      exact ⟨a, by simp, hr.symm, fun x => atF_line hr hv x⟩
  · rw [if_neg hj]
    refine ⟨List.Sublist.append h.sub (List.Sublist.refl _), fun x => ?_, ?_, fun q2 hq2 => ?_, ?_⟩
    · rw [atL_snoc, atL_snoc, h.val]
    · have := h.hd
      cases p with
      | nil =>
        have : b = [] := List.eq_nil_of_sublist_nil h.sub
        subst this; rfl
      | cons c r => cases b with
        | nil => simp at this
        | cons _ _ => simpa using this
    · simp at hq2; subst hq2
      exact ⟨a, by simp, rfl, fun _ => rfl⟩
    · intro i q l h1 h2 ⟨h3, h4⟩
      by_cases hi : i + 1 < b.length
      · rw [List.getElem?_append_left hi] at h2
        rw [List.getElem?_append_left (by omega)] at h1
        exact h.na i q l h1 h2 ⟨h3, h4⟩
      · have hlen := (List.getElem?_eq_some_iff.1 h2).1
        simp at hlen
        have hib : i + 1 = b.length := by omega
        rw [List.getElem?_append_right (by omega)] at h2
        rw [List.getElem?_append_left (by omega)] at h1
        have e : i + 1 - b.length = 0 := by omega
        rw [e] at h2
        simp at h2; subst h2
        have : b.getLast? = some q := by
          rw [List.getLast?_eq_getElem?, show b.length - 1 = i by omega]; exact h1
        apply hj
        unfold jn
        rw [this]
        simp [h3, h4]
theorem jinv_all : ∀ (l p b : List Ln), JInv p b → (p ++ l).Pairwise (fun a b => a.f < b.f) → JInv (p ++ l) (joinL b l)
  | [], p, b, h, _ => by simpa [joinL] using h
  | a :: r, p, b, h, hs => by
    have e : p ++ a :: r = (p ++ [a]) ++ r := by simp
    rw [e] at hs ⊢
    have h1 := jinv_step h (List.pairwise_append.1 hs).1
    have h2 := jinv_all r (p ++ [a]) _ h1 hs
    simp only [joinL]
    split at h2 <;> rename_i hj
    · rw [if_pos hj]; exact h2
    · rw [if_neg hj]; exact h2
theorem jinv (l : List Ln) (hs : l.Pairwise (fun a b => a.f < b.f)) : JInv l (joinL [] l) := by
  have := jinv_all l [] [] ⟨List.Sublist.refl _, fun _ => rfl, rfl, fun q h => by simp at h, fun i q l h => by simp at h⟩ (by simpa using hs)
  simpa using this

/-! What a check says of a list like that -/
theorem ckA_mk : ∀ (l : List Ln) (p : Option Int), l.Pairwise (fun a b => a.f < b.f) → (∀ a ∈ l, 0 ≤ a.f ∧ a.f ≤ 10000000000) → (∀ q, p = some q → ∀ a ∈ l, q < a.f) → (p = none → ∀ a, l.head? = some a → a.f = 0) → ckA p l = 0 ∨ ckA p l = 50
  | [], p, _, _, _, _ => .inl (ckA_nil p)
  | a :: r, p, hs, hr, hq, hh => by
    have h1 := hr a (by simp)
    have h2 := List.pairwise_cons.1 hs
    have ih := ckA_mk r (some a.f) h2.2 (fun b hb => hr b (by simp [hb])) (fun q h b hb => by cases h; exact h2.1 b hb) (fun h => by cases h)
    cases p with
    | none =>
      have h3 := hh rfl a rfl
      rw [ckA_none, if_neg (by omega), if_neg (by omega), if_pos h3]
      split
      · exact .inr rfl
      split
      · exact .inr rfl
      exact ih
    | some q =>
      have h3 := hq q rfl a (by simp)
      rw [ckA_some, if_neg (by omega), if_neg (by omega), if_neg (by omega)]
      split
      · exact .inr rfl
      split
      · exact .inr rfl
      exact ih
theorem ckA_mk0 : ∀ (l : List Ln) (p : Option Int), ckA p l = 0 ∨ ckA p l = 50 → (∀ a ∈ l, a.r ≤ 40000 ∧ -40000 ≤ a.r) → ckA p l = 0
  | [], p, _, _ => ckA_nil p
  | a :: r, p, h, hr => by
    have h1 := hr a (by simp)
    have ih := ckA_mk0 r (some a.f)
    cases p with
    | none =>
      rw [ckA_none] at h ⊢
      repeat' split at h
      all_goals first | (exfalso; omega) | skip
      rw [if_neg (by omega), if_neg (by omega), if_pos (by assumption), if_neg (by omega), if_neg (by omega)]
      exact ih h fun b hb => hr b (by simp [hb])
    | some q =>
      rw [ckA_some] at h ⊢
      repeat' split at h
      all_goals first | (exfalso; omega) | skip
      rw [if_neg (by omega), if_neg (by omega), if_neg (by omega), if_neg (by omega), if_neg (by omega)]
      exact ih h fun b hb => hr b (by simp [hb])
theorem ckB_cases : ∀ l : List Ln, ckB l = 0 ∨ ckB l = 10
  | [] => .inl rfl
  | a :: r => by
    simp only [ckB]
    repeat' split
    · exact ckB_cases r
    · exact .inr rfl
    · exact .inr rfl
theorem ckB_mk : ∀ l : List Ln, (∀ i a, l[i]? = some a → bdF a.v = true ∧ bdF (atF a (endF (l.drop (i + 1)))) = true) → ckB l = 0
  | [], _ => rfl
  | a :: r, h => by
    have h0 := h 0 a rfl
    simp only [Nat.zero_add, List.drop_succ_cons, List.drop_zero] at h0
    simp only [ckB, h0.1, h0.2, if_true]
    exact ckB_mk r fun i b hb => by have := h (i + 1) b (by simpa using hb); simpa using this

end Go.Proofs.Ytenldcieoalgoaa
end

section
/-
  Numbers at which pieces begin, and what follows of two functions of the same values: plain.
-/
namespace Go.Proofs.Ytenldcieoalgoaa
open Go Vm
set_option linter.unusedSimpArgs false
set_option linter.unusedVariables false

theorem ddS_mem (l : List Int) (v : Int) : v ∈ ddS l ↔ v ∈ l := by
  induction l using snoc_ind with
  | h0 => simp [ddS]
  | h1 l a ih =>
    rw [ddS_snoc]
    split
    · rename_i h
      have : a ∈ ddS l := List.mem_of_getLast? h
      simp only [List.mem_append, List.mem_singleton, ← ih]
      exact ⟨.inl, fun h => h.elim id (fun h => by rw [h]; exact this)⟩
    · simp [ih]
theorem ddS_sorted (l : List Int) (h : l.Pairwise (· ≤ ·)) : (ddS l).Pairwise (· < ·) := by
  induction l using snoc_ind with
  | h0 => simp [ddS]
  | h1 l a ih =>
    obtain ⟨h1, _, h2⟩ := List.pairwise_append.1 h
    rw [ddS_snoc]
    split
    · exact ih h1
    · rename_i hne
      refine List.pairwise_append.2 ⟨ih h1, by simp, fun u hu b hb => ?_⟩
      simp at hb; subst hb
      have hle : u ≤ b := h2 u ((ddS_mem l u).1 hu) b (by simp)
      rcases (by omega : u < b ∨ u = b) with h3 | h3
      · exact h3
      · exfalso
        apply hne
        subst h3
        -- the last one is the greatest
        have hnel : ddS l ≠ [] := by intro h4; rw [h4] at hu; simp at hu
        have hL : (ddS l).getLast? = some ((ddS l).getLast hnel) := List.getLast?_eq_some_getLast hnel
        rw [hL]
        congr 1
        have hm := List.getLast_mem hnel
        have hle2 : (ddS l).getLast hnel ≤ u := h2 _ ((ddS_mem l _).1 hm) u (by simp)
        have hs := ih h1
        rcases (by omega : (ddS l).getLast hnel < u ∨ (ddS l).getLast hnel = u) with h5 | h5
        · exfalso
          rw [← List.dropLast_concat_getLast hnel] at hu
          rcases List.mem_append.1 hu with h6 | h6
          · rw [← List.dropLast_concat_getLast hnel] at hs
            have := (List.pairwise_append.1 hs).2.2 u h6 ((ddS l).getLast hnel) (List.mem_singleton.2 rfl)
            omega
          · simp at h6; omega
        · exact h5
theorem fr_mem (x y : List Ln) (v : Int) : v ∈ frF x y ↔ ∃ a ∈ x ++ y, a.f = v := by
  unfold frF
  rw [ddS_mem, (sortZ_perm _).mem_iff, List.mem_map]
theorem fr_sorted (x y : List Ln) : (frF x y).Pairwise (· < ·) := ddS_sorted _ (sortZ_sorted _)
theorem ddS_len (l : List Int) : (ddS l).length ≤ l.length := by
  induction l using snoc_ind with
  | h0 => simp [ddS]
  | h1 l a ih =>
    rw [ddS_snoc]
    split <;> simp <;> omega
theorem fr_len (x y : List Ln) : (frF x y).length ≤ x.length + y.length := by
  have := ddS_len (sortZ ((x ++ y).map (·.f)))
  rw [sortZ_len, List.length_map, List.length_append] at this
  exact this

theorem cnt_same {x : List Ln} {v e : Int} (h : ∀ a ∈ x, a.f ≤ e ↔ a.f ≤ v) : cnt e x = cnt v x := by
  induction x with
  | nil => rfl
  | cons a r ih =>
    have h1 := h a (by simp)
    have h2 := ih fun b hb => h b (by simp [hb])
    by_cases hv : a.f ≤ v
    · have he := h1.2 hv
      simp [cnt, hv, he, h2]
    · have he : ¬ a.f ≤ e := fun hh => hv (h1.1 hh)
      simp [cnt, hv, he]
/-- Where a number at which a piece begins goes up to: no other piece begins there. -/
theorem fr_next (x y : List Ln) (hx : ∀ a ∈ x ++ y, 0 ≤ a.f ∧ a.f ≤ 10000000000) (i : Nat) (v : Int) (hv : (frF x y)[i]? = some v) : 0 ≤ v ∧ v ≤ 10000000000 ∧ v ≤ enD ((frF x y).drop (i + 1)) ∧ enD ((frF x y).drop (i + 1)) ≤ 10000000000 ∧ (∀ a ∈ x ++ y, a.f ≤ enD ((frF x y).drop (i + 1)) ↔ a.f ≤ v) := by
  have hmem := fun u => fr_mem x y u
  have hs := fr_sorted x y
  generalize frF x y = L at *
  have hR : ∀ u ∈ L, 0 ≤ u ∧ u ≤ 10000000000 := fun u hu => by
    obtain ⟨a, ha, rfl⟩ := (hmem u).1 hu
    exact hx a ha
  have hvm := hR v (List.mem_of_getElem? hv)
  have hmono : ∀ (i j : Nat) (a b : Int), L[i]? = some a → L[j]? = some b → i < j → a < b := by
    intro i j a b ha hb hij
    obtain ⟨hi, rfl⟩ := List.getElem?_eq_some_iff.1 ha
    obtain ⟨hj, rfl⟩ := List.getElem?_eq_some_iff.1 hb
    exact List.pairwise_iff_getElem.1 hs i j hi hj hij
  by_cases hn : i + 1 < L.length
  · have h3 : L[i + 1]? = some L[i + 1] := by simp [hn]
    rw [List.drop_eq_getElem_cons hn]
    generalize L[i + 1] = w at h3
    have hvw := hmono i (i + 1) v w hv h3 (by omega)
    have hw := hR w (List.mem_of_getElem? h3)
    have he : enD (w :: L.drop (i + 1 + 1)) = w - 1 := by simp only [enD]; exact wrap_ok (by omega) (by omega)
    rw [he]
    refine ⟨hvm.1, hvm.2, by omega, by omega, fun a ha => ⟨fun h => ?_, fun h => by omega⟩⟩
    have ham : a.f ∈ L := (hmem _).2 ⟨a, ha, rfl⟩
    obtain ⟨j, hj⟩ := List.getElem?_of_mem ham
    rcases Nat.lt_or_ge i j with hij | hij
    · rcases Nat.lt_or_ge (i + 1) j with h4 | h4
      · have := hmono (i + 1) j w _ h3 hj h4; omega
      · have : j = i + 1 := by omega
        subst this; rw [h3] at hj; cases hj; omega
    · rcases Nat.lt_or_ge j i with h4 | h4
      · have := hmono j i _ v hj hv h4; omega
      · have : j = i := by omega
        subst this; rw [hv] at hj; cases hj; omega
  · rw [List.drop_eq_nil_of_le (by omega)]
    refine ⟨hvm.1, hvm.2, hvm.2, Int.le_refl _, fun a ha => ⟨fun h => ?_, fun h => (hx a ha).2⟩⟩
    have ham : a.f ∈ L := (hmem _).2 ⟨a, ha, rfl⟩
    obtain ⟨j, hj⟩ := List.getElem?_of_mem ham
    have hjl := (List.getElem?_eq_some_iff.1 hj).1
    rcases Nat.lt_or_ge j i with h4 | h4
    · have := hmono j i _ v hj hv h4; omega
    · have : j = i := by omega
      subst this; rw [hv] at hj; cases hj; omega
/-- Functions of the same values are the same. -/
theorem same_law {x y : List Ln} (gx : Okf x) (gy : Okf y) (hval : ∀ t, 0 ≤ t → t ≤ 10000000000 → atL t 0 x = atL t 0 y) : ∀ i v a b, (frF x y)[i]? = some v → x[fnd v x]? = some a → y[fnd v y]? = some b →
    atF a v = atF b v ∧ atF a (enD ((frF x y).drop (i + 1))) = atF b (enD ((frF x y).drop (i + 1))) := by
  intro i v a b hv ha hb
  have hR : ∀ a ∈ x ++ y, 0 ≤ a.f ∧ a.f ≤ 10000000000 := fun a ha => (List.mem_append.1 ha).elim (fun h => ⟨gx.low a h, gx.top a h⟩) (fun h => ⟨gy.low a h, gy.top a h⟩)
  obtain ⟨h1, h2, h3, h4, h5⟩ := fr_next x y hR i v hv
  generalize enD ((frF x y).drop (i + 1)) = e at *
  have cx : fnd e x = fnd v x := by unfold fnd; rw [cnt_same fun a ha => h5 a (by simp [ha])]
  have cy : fnd e y = fnd v y := by unfold fnd; rw [cnt_same fun a ha => h5 a (by simp [ha])]
  obtain ⟨a1, p1, p2, _⟩ := fnd_at gx h1
  obtain ⟨a2, p3, p4, _⟩ := fnd_at gx (by omega : 0 ≤ e)
  obtain ⟨b1, q1, q2, _⟩ := fnd_at gy h1
  obtain ⟨b2, q3, q4, _⟩ := fnd_at gy (by omega : 0 ≤ e)
  rw [cx] at p3
  rw [cy] at q3
  rw [ha] at p1 p3; cases p1; cases p3
  rw [hb] at q1 q3; cases q1; cases q3
  exact ⟨by rw [p2, q2]; exact hval v h1 h2, by rw [p4, q4]; exact hval e (by omega) h4⟩

/-- What join keeps of a function is one. -/
theorem join_ok {p : List Ln} (g : Okf p) : ckF (joinL [] p) = 0 := by
  have J := jinv p g.sort
  generalize joinL [] p = b at *
  have hsort : b.Pairwise (fun a b => a.f < b.f) := g.sort.sublist J.sub
  have hne : b.length ≠ 0 := by
    intro h
    have hb : b = [] := List.length_eq_zero_iff.1 h
    have := J.hd
    rw [hb] at this
    cases hp : p with
    | nil => exact g.ne (by rw [hp]; rfl)
    | cons _ _ => rw [hp] at this; simp at this
  have hle : b.length ≤ 256 := Nat.le_trans J.sub.length_le g.most
  have hA : ckA none b = 0 := ckA_mk0 b none (ckA_mk b none hsort (fun a ha => ⟨g.low a (J.sub.subset ha), g.top a (J.sub.subset ha)⟩) (fun q h => by cases h) (fun _ a ha => by
    rw [J.hd] at ha
    exact g.head a (by rw [← List.head?_eq_getElem?]; exact ha))) fun a ha => ⟨g.rmax a (J.sub.subset ha), g.rmin a (J.sub.subset ha)⟩
  have hmono : ∀ (i j : Nat) (a c : Ln), b[i]? = some a → b[j]? = some c → i < j → a.f < c.f := by
    intro i j a c ha hc hij
    obtain ⟨hi, rfl⟩ := List.getElem?_eq_some_iff.1 ha
    obtain ⟨hj, rfl⟩ := List.getElem?_eq_some_iff.1 hc
    exact List.pairwise_iff_getElem.1 hsort i j hi hj hij
  have hB : ckB b = 0 := by
    refine ckB_mk b fun i q hq => ?_
    have hqp := J.sub.subset (List.mem_of_getElem? hq)
    obtain ⟨m, hm⟩ := List.getElem?_of_mem hqp
    refine ⟨(ckB_ok p g.b m q hm).1, ?_⟩
    -- the value at the last number is that of the piece of `p` that ends there
    by_cases hn : i + 1 < b.length
    · have h3 : b[i + 1]? = some b[i + 1] := by simp [hn]
      rw [List.drop_eq_getElem_cons hn]
      generalize b[i + 1] = w at h3
      have hwp := J.sub.subset (List.mem_of_getElem? h3)
      obtain ⟨n, hw⟩ := List.getElem?_of_mem hwp
      have hqw := hmono i (i + 1) q w hq h3 (by omega)
      have hwr := g.f0 hw
      have hqr := g.f0 hm
      have he : endF (w :: b.drop (i + 1 + 1)) = w.f - 1 := by simp only [endF]; exact wrap_ok (by omega) (by omega)
      rw [he]
      have hv1 : atL (w.f - 1) 0 b = atF q (w.f - 1) := by
        have hc := cnt_of (w.f - 1) b (i + 1) (by omega) (fun j l hl hj => by
          rcases Nat.lt_or_ge j i with hh | hh
          · have := hmono j i l q hl hq hh; omega
          · have : j = i := by omega
            subst this; rw [hq] at hl; cases hl; omega) (fun l hl => by rw [h3] at hl; cases hl; omega)
        rw [atL_cnt _ b 0 hsort, hc, if_neg (by omega)]
        simp [hq]
      rw [← hv1, J.val]
      cases n with
      | zero => have := g.head w hw; omega
      | succ n =>
        have hnl : n < p.length := by have := (List.getElem?_eq_some_iff.1 hw).1; omega
        have hu : p[n]? = some p[n] := by simp [hnl]
        generalize p[n] = u at hu
        have hend := (g.fin hu).2.2 w hw
        have hlt := g.lt hu hw (by omega)
        rw [← hend, g.at_end hu (g.fin hu).1 (Int.le_refl _)]
        exact (ckB_ok p g.b n u hu).2
    · rw [List.drop_eq_nil_of_le (by omega)]
      have hqr := g.f0 hm
      have hv1 : atL 10000000000 0 b = atF q 10000000000 := by
        have hc := cnt_of 10000000000 b (i + 1) (by have := (List.getElem?_eq_some_iff.1 hq).1; omega) (fun j l hl hj => g.top l (J.sub.subset (List.mem_of_getElem? hl))) (fun l hl => by
          have := (List.getElem?_eq_some_iff.1 hl).1; omega)
        rw [atL_cnt _ b 0 hsort, hc, if_neg (by omega)]
        simp [hq]
      show bdF (atF q 10000000000) = true
      rw [← hv1, J.val]
      have hpl := g.ne
      obtain ⟨n, hn2⟩ : ∃ n, p.length = n + 1 := ⟨p.length - 1, by omega⟩
      have hu : p[n]? = some p[n] := by simp [hn2]
      generalize p[n] = u at hu
      have hdr : p.drop (n + 1) = [] := List.drop_eq_nil_of_le (by omega)
      have hb2 := (ckB_ok p g.b n u hu).2
      rw [hdr] at hb2
      rw [g.at_end hu (g.f0 hu).2.1 (by rw [hdr]; exact Int.le_refl _)]
      exact hb2
  unfold ckF
  rw [if_neg hne, if_neg (by omega), if_pos hA]
  exact hB

end Go.Proofs.Ytenldcieoalgoaa
end

section
/-
  Two functions together.
-/
namespace Go.Proofs.Ytenldcieoalgoaa
open Go Vm
set_option maxRecDepth 4000
set_option linter.unusedSimpArgs false
set_option linter.unusedVariables false

/-- The piece in which a number is. -/
def lnAt (xs : List Ln) (v : Int) : Ln := (xs[fnd v xs]?).getD ⟨0, 0, 0⟩
theorem lnAt_some {xs : List Ln} (g : Okf xs) (v : Int) : xs[fnd v xs]? = some (lnAt xs v) := by
  have := fnd_lt (x := v) g
  unfold lnAt
  rw [List.getElem?_eq_getElem this]
  rfl
theorem lnAt_val {xs : List Ln} (g : Okf xs) {v : Int} (hv : 0 ≤ v) : atF (lnAt xs v) v = atL v 0 xs := by
  obtain ⟨a, h1, h2, _⟩ := fnd_at g hv
  rw [lnAt_some g] at h1
  cases h1
  exact h2
def adG (f g : List Ln) (t v : Int) : Ln := ⟨v, IntKind.i64.wrap (atF (lnAt f v) v + IntKind.i64.wrap (t * atF (lnAt g v) v)), IntKind.i64.wrap ((lnAt f v).r + IntKind.i64.wrap (t * (lnAt g v).r))⟩
def adO (f g : List Ln) (t : Int) : List Ln := (frF f g).map (adG f g t)
def adE (f g : List Ln) (t : Int) : Int := if boF f g = 0 then (if t < -1 then 1 else if 1 < t then 1 else ckF (joinL [] (adO f g t))) else boF f g
def adR (f g : List Ln) (t : Int) : List Ln := if adE f g t = 0 then joinL [] (adO f g t) else []
theorem boF_ok {f g : List Ln} (h : boF f g = 0) : ckF f = 0 ∧ ckF g = 0 := by
  unfold boF at h
  split at h
  · rename_i h1; exact ⟨h1, h⟩
  · rename_i h1; exact absurd h h1

set_option maxHeartbeats 1000000 in
theorem add14 (x y : Sl Ln) (h1 : x.xs.length < 9223372036854775808) (h2 : y.xs.length < 9223372036854775808) (t : Int) : callI Try.prog cfg 14 [x.d lne, y.d lne, .s (.int .i64 t)] [] = some ([(accS (adR x.xs y.xs t)).d lne, .s (.int .i64 (adE x.xs y.xs t))], []) := by
  rw [callI_eq Try.func14 rfl rfl]
  have hnil : (accS ([] : List Ln)).d lne = nilS := rfl
  have hbo := both29 x y h1 h2
  by_cases hc : boF x.xs y.xs = 0
  case neg =>
    have e1 : adE x.xs y.xs t = boF x.xs y.xs := if_neg hc
    have e2 : adR x.xs y.xs t = [] := by unfold adR; rw [e1, if_neg hc]
    simp only [Try.f14, *, go_sem, ↓reduceIte, Nat.reduceAdd, Nat.reduceSub, Nat.reduceMul, Nat.reduceLeDiff, Nat.reduceLT, Nat.reduceEqDiff, Nat.reduceBEq, Int.reduceLT, Int.reduceLE, Int.reduceEq, Int.reduceAdd, Int.reduceNeg, Int.reduceToNat, reduceCtorEq]
  obtain ⟨hcx, hcy⟩ := boF_ok hc
  have gx := ckF_ok hcx
  have gy := ckF_ok hcy
  by_cases ht1 : t < -1
  · have e1 : adE x.xs y.xs t = 1 := by unfold adE; rw [if_pos hc, if_pos ht1]
    have e2 : adR x.xs y.xs t = [] := by unfold adR; rw [e1]; rfl
    clear gx gy hcx hcy
    simp only [Try.f14, *, go_sem, ↓reduceIte, Nat.reduceAdd, Nat.reduceSub, Nat.reduceMul, Nat.reduceLeDiff, Nat.reduceLT, Nat.reduceEqDiff, Nat.reduceBEq, Int.reduceLT, Int.reduceLE, Int.reduceEq, Int.reduceAdd, Int.reduceNeg, Int.reduceToNat, reduceCtorEq]
  by_cases ht2 : 1 < t
  · have e1 : adE x.xs y.xs t = 1 := by unfold adE; rw [if_pos hc, if_neg ht1, if_pos ht2]
    have e2 : adR x.xs y.xs t = [] := by unfold adR; rw [e1]; rfl
    clear gx gy hcx hcy
    simp only [Try.f14, *, go_sem, ↓reduceIte, Nat.reduceAdd, Nat.reduceSub, Nat.reduceMul, Nat.reduceLeDiff, Nat.reduceLT, Nat.reduceEqDiff, Nat.reduceBEq, Int.reduceLT, Int.reduceLE, Int.reduceEq, Int.reduceAdd, Int.reduceNeg, Int.reduceToNat, reduceCtorEq]
  have e1 : adE x.xs y.xs t = ckF (joinL [] (adO x.xs y.xs t)) := by unfold adE; rw [if_pos hc, if_neg ht1, if_neg ht2]
  rw [hc] at hbo
  have hfr := froms30 x y (by have := gx.most; omega) (by have := gy.most; omega) (by have := gx.ne; omega) (by have := gy.ne; omega)
  have hlen2 : (adO x.xs y.xs t).length ≤ 1000000 := by
    have := fr_len x.xs y.xs
    have := gx.most
    have := gy.most
    unfold adO; simp; omega
  have hll : (frF x.xs y.xs).length ≤ 1000000 := by
    have := hlen2
    unfold adO at this
    simpa using this
  have hd31 := done31 (accS (adO x.xs y.xs t)) (by rw [accS_xs]; exact hlen2)
  rw [accS_xs] at hd31
  have hO : Unit → adO x.xs y.xs t = (frF x.xs y.xs).map (adG x.xs y.xs t) := fun _ => rfl
  have hw1 : ∀ v, callI Try.prog cfg 25 [x.d lne, .s (.int .i64 v)] [] = some ([.s (.int .i64 (fnd v x.xs : Nat))], []) := fun v => find25 x v gx.most gx.sort
  have hw2 : ∀ v, callI Try.prog cfg 25 [y.d lne, .s (.int .i64 v)] [] = some ([.s (.int .i64 (fnd v y.xs : Nat))], []) := fun v => find25 y v gy.most gy.sort
  have hx1 : Unit → ∀ v, x.xs[fnd v x.xs]? = some (lnAt x.xs v) := fun _ v => lnAt_some gx v
  have hy1 : Unit → ∀ v, y.xs[fnd v y.xs]? = some (lnAt y.xs v) := fun _ v => lnAt_some gy v
  generalize frF x.xs y.xs = L at *
  clear gx gy hcx hcy
  simp only [Try.f14, *, go_sem, ↓reduceIte, Nat.reduceAdd, Nat.reduceSub, Nat.reduceMul, Nat.reduceLeDiff, Nat.reduceLT, Nat.reduceEqDiff, Nat.reduceBEq, Int.reduceLT, Int.reduceLE, Int.reduceEq, Int.reduceAdd, Int.reduceNeg, Int.reduceToNat, reduceCtorEq]
  generalize hx : exe _ _ _ (.loop _) _ = r
  obtain ⟨z, s1, rfl, hp⟩ := list_use hx (head0 _ _) L (by omega)
    (fun i (b : List Ln) st => rdT st.tm 30 = .s (.int .i64 (i : Int)) ∧ rdT st.tm 29 = .s (.int .i64 (L.length : Int)) ∧ rdT st.tm 28 = (Sl.l none L).d ieD ∧ rdT st.tm 0 = x.d lne ∧ rdT st.tm 1 = y.d lne ∧ rdT st.tm 2 = .s (.int .i64 t) ∧ b.length = i ∧ Acc st.hp 0 st.nx 3 (b.map lne) (rdT st.tm 9))
    (fun b l => b ++ l.map (adG x.xs y.xs t))
    (fun r ex st2 => ex = .exit 0 ∧ Acc st2.hp 0 st2.nx 3 (r.map lne) (rdT st2.tm 9)) []
    (by simp only [*, go_sem, ↓reduceIte, Nat.reduceAdd, Nat.reduceSub, Nat.reduceMul, Nat.reduceLeDiff, Nat.reduceLT, Nat.reduceEqDiff, Nat.reduceBEq, Int.reduceLT, Int.reduceLE, Int.reduceEq, Int.reduceAdd, Int.reduceNeg, Int.reduceToNat, reduceCtorEq]; exact acc_nil _ _ _ _) (by
      clear hx hd31 hlen2 e1 hO hfr hbo hc
      rintro i b st v l ha hd hlt hw ⟨h30, h29, h28, h0, h1, h2, hbl, hacc⟩
      generalize h9 : rdT st.tm 9 = dd at hacc
      have hi := (List.getElem?_eq_some_iff.1 ha).1
      have m0 : (L.map ieD)[i]? = some (ieD v) := by simp [ha]
      have k1 := hw1 v
      have k2 := hw2 v
      have hxa := hx1 () v
      have hyb := hy1 () v
      have hG : Unit → adG x.xs y.xs t v = ⟨v, IntKind.i64.wrap (atF (lnAt x.xs v) v + IntKind.i64.wrap (t * atF (lnAt y.xs v) v)), IntKind.i64.wrap ((lnAt x.xs v).r + IntKind.i64.wrap (t * (lnAt y.xs v).r))⟩ := fun _ => rfl
      generalize lnAt x.xs v = a at *
      generalize lnAt y.xs v = c at *
      generalize fnd v x.xs = i1 at *
      generalize fnd v y.xs = i2 at *
      have ka := at26 a v
      have kb := at26 c v
      have happ := app_one (α := Ln) (f := lne) (k := 0) (nt := 72) (fn := 14) (ro := true) (K := 0) (N := st.nx) (bytes := 24) (xs := b) (d := dd) (⟨v, IntKind.i64.wrap (atF a v + IntKind.i64.wrap (t * atF c v)), IntKind.i64.wrap (a.r + IntKind.i64.wrap (t * c.r))⟩ : Ln) lne_len (Nat.zero_le _) (by omega) (by omega)
      simp only [lne] at ka kb happ
      clear hd hll hw1 hw2 hx1 hy1
      simp only [*, go_sem, ↓reduceIte, Nat.reduceAdd, Nat.reduceSub, Nat.reduceMul, Nat.reduceLeDiff, Nat.reduceLT, Nat.reduceEqDiff, Nat.reduceBEq, Int.reduceLT, Int.reduceLE, Int.reduceEq, Int.reduceAdd, Int.reduceNeg, Int.reduceToNat, reduceCtorEq, lne, ieD]
      refine ⟨b ++ [adG x.xs y.xs t v], ?_⟩
      rw [hG ()]
      simp only [List.length_append, List.length_cons, List.length_nil, List.append_assoc, List.cons_append, List.nil_append, hbl, and_true, true_and]
      exact acc_new (Nat.zero_le _) (by omega) (by simp; omega) (by simp))
    (by
      clear hx hd31 hlen2 e1 hO hfr hbo hc
      rintro b st ⟨h30, h29, h28, h0, h1, h2, hbl, hacc⟩
      simp only [*, go_sem, ↓reduceIte, Nat.reduceAdd, Nat.reduceSub, Nat.reduceMul, Nat.reduceLeDiff, Nat.reduceLT, Nat.reduceEqDiff, Nat.reduceBEq, Int.reduceLT, Int.reduceLE, Int.reduceEq, Int.reduceAdd, Int.reduceNeg, Int.reduceToNat, reduceCtorEq, Int.lt_irrefl])
  clear hx
  obtain ⟨rfl, p2⟩ := hp
  generalize hd3 : rdT s1.tm 9 = dd at p2
  rw [List.nil_append, ← hO ()] at p2
  have f1 := frzG_acc p2
  have f2 := acc_sl p2
  by_cases hz : ckF (joinL [] (adO x.xs y.xs t)) = 0
  · have e2 : adR x.xs y.xs t = joinL [] (adO x.xs y.xs t) := by unfold adR; rw [e1, if_pos hz]
    obtain ⟨LL, hL⟩ := accS_l (ckF_ok hz).ne
    rw [if_pos hz, hL] at hd31
    clear hO hlen2 p2 hc hx1 hy1
    simp only [*, go_sem, ↓reduceIte, Nat.reduceAdd, Nat.reduceSub, Nat.reduceMul, Nat.reduceLeDiff, Nat.reduceLT, Nat.reduceEqDiff, Nat.reduceBEq, Int.reduceLT, Int.reduceLE, Int.reduceEq, Int.reduceAdd, Int.reduceNeg, Int.reduceToNat, reduceCtorEq]
  · have e2 : adR x.xs y.xs t = [] := by unfold adR; rw [e1, if_neg hz]
    rw [if_neg hz] at hd31
    clear hO hlen2 p2 hc hx1 hy1
    simp only [*, go_sem, ↓reduceIte, Nat.reduceAdd, Nat.reduceSub, Nat.reduceMul, Nat.reduceLeDiff, Nat.reduceLT, Nat.reduceEqDiff, Nat.reduceBEq, Int.reduceLT, Int.reduceLE, Int.reduceEq, Int.reduceAdd, Int.reduceNeg, Int.reduceToNat, reduceCtorEq]

end Go.Proofs.Ytenldcieoalgoaa
end

section
/-
  The law of two functions together: plain.
-/
namespace Go.Proofs.Ytenldcieoalgoaa
open Go Vm
set_option linter.unusedSimpArgs false
set_option linter.unusedVariables false

theorem Cg.mulL {a b : Int} (h : Cg a b) (c : Int) : Cg (c * a) (c * b) := by rw [Int.mul_comm c a, Int.mul_comm c b]; exact h.mul c
theorem adG_at (f g : List Ln) (t v x : Int) : atF (adG f g t v) x = IntKind.i64.wrap (atF (lnAt f v) x + IntKind.i64.wrap (t * atF (lnAt g v) x)) := by
  rw [atF_eq]
  apply wrap_cg
  show Cg (IntKind.i64.wrap (atF (lnAt f v) v + IntKind.i64.wrap (t * atF (lnAt g v) v)) + (x - v) * IntKind.i64.wrap ((lnAt f v).r + IntKind.i64.wrap (t * (lnAt g v).r))) _
  generalize lnAt f v = a
  generalize lnAt g v = b
  have h1 : Cg (IntKind.i64.wrap (atF a v + IntKind.i64.wrap (t * atF b v))) ((a.v + (v - a.f) * a.r) + t * (b.v + (v - b.f) * b.r)) := (cg_wrap _).trans ((atF_cg a v).add ((cg_wrap _).trans ((atF_cg b v).mulL t)))
  have h2 : Cg ((x - v) * IntKind.i64.wrap (a.r + IntKind.i64.wrap (t * b.r))) ((x - v) * (a.r + t * b.r)) := ((cg_wrap _).trans ((Cg.refl _).add (cg_wrap _))).mulL _
  have h3 : Cg (atF a x + IntKind.i64.wrap (t * atF b x)) ((a.v + (x - a.f) * a.r) + t * (b.v + (x - b.f) * b.r)) := (atF_cg a x).add ((cg_wrap _).trans ((atF_cg b x).mulL t))
  have e : ((a.v + (v - a.f) * a.r) + t * (b.v + (v - b.f) * b.r)) + (x - v) * (a.r + t * b.r) = (a.v + (x - a.f) * a.r) + t * (b.v + (x - b.f) * b.r) := by
    have e1 : (x - a.f) * a.r = (v - a.f) * a.r + (x - v) * a.r := by rw [← Int.add_mul]; congr 1; omega
    have e2 : (x - b.f) * b.r = (v - b.f) * b.r + (x - v) * b.r := by rw [← Int.add_mul]; congr 1; omega
    rw [e1, e2]
    simp only [Int.mul_add, Int.mul_left_comm]
    omega
  exact (h1.add h2).trans (e ▸ h3.symm)

section
variable {f g : List Ln} (gf : Okf f) (gg : Okf g) (t : Int)
include gf gg
theorem fr_R : ∀ a ∈ f ++ g, 0 ≤ a.f ∧ a.f ≤ 10000000000 := fun a ha => (List.mem_append.1 ha).elim (fun h => ⟨gf.low a h, gf.top a h⟩) (fun h => ⟨gg.low a h, gg.top a h⟩)
theorem fr_range : ∀ v ∈ frF f g, 0 ≤ v ∧ v ≤ 10000000000 := fun v hv => by
  obtain ⟨a, ha, rfl⟩ := (fr_mem f g v).1 hv
  exact fr_R gf gg a ha
theorem fr_zero : (0 : Int) ∈ frF f g := by
  have hne := gf.ne
  have h : f[0]? = some f[0] := by simp
  exact (fr_mem f g 0).2 ⟨f[0], by simp, gf.head _ h⟩
/-- Where a number stands among those at which pieces begin. -/
theorem fr_at {x : Int} (hx : 0 ≤ x) : ∃ i v, (frF f g)[i]? = some v ∧ v ≤ x ∧ (∀ w, (frF f g)[i + 1]? = some w → x < w) ∧ (∀ a ∈ f ++ g, a.f ≤ x ↔ a.f ≤ v) := by
  have hz := fr_zero gf gg
  have hs := fr_sorted f g
  have hm := fun u => fr_mem f g u
  generalize frF f g = L at *
  have key : ∀ (L : List Int) (u : Int), L.Pairwise (· < ·) → u ∈ L → u ≤ x → ∃ i v, L[i]? = some v ∧ v ≤ x ∧ (∀ w, L[i + 1]? = some w → x < w) ∧ (∀ w ∈ L, w ≤ x → w ≤ v) := by
    intro L
    induction L with
    | nil => intro u _ h; simp at h
    | cons a r ih =>
      intro u hs hu hux
      obtain ⟨s1, s2⟩ := List.pairwise_cons.1 hs
      have hau : a ≤ x := by
        rcases List.mem_cons.1 hu with rfl | h
        · exact hux
        · have := s1 u h; omega
      by_cases hr : ∃ w ∈ r, w ≤ x
      · obtain ⟨w, hw, hwx⟩ := hr
        obtain ⟨i, v, h1, h2, h3, h4⟩ := ih w s2 hw hwx
        refine ⟨i + 1, v, by simpa using h1, h2, fun w hw => h3 w (by simpa using hw), fun w hw hwx => ?_⟩
        rcases List.mem_cons.1 hw with rfl | h
        · have := s1 v (List.mem_of_getElem? h1); omega
        · exact h4 w h hwx
      · refine ⟨0, a, rfl, hau, fun w hw => ?_, fun w hw hwx => ?_⟩
        · have hwr : w ∈ r := List.mem_of_getElem? (by simpa using hw : r[0]? = some w)
          rcases (by omega : x < w ∨ w ≤ x) with h | h
          · exact h
          · exact absurd ⟨w, hwr, h⟩ hr
        · rcases List.mem_cons.1 hw with rfl | h
          · exact Int.le_refl _
          · exact absurd ⟨w, h, hwx⟩ hr
  obtain ⟨i, v, h1, h2, h3, h4⟩ := key L 0 hs hz hx
  exact ⟨i, v, h1, h2, h3, fun a ha => ⟨fun h => h4 a.f ((hm _).2 ⟨a, ha, rfl⟩) h, fun h => by omega⟩⟩
theorem adO_sort : (adO f g t).Pairwise (fun a b => a.f < b.f) ∧ (∀ a ∈ adO f g t, 0 ≤ a.f ∧ a.f ≤ 10000000000) ∧ (∀ a, (adO f g t).head? = some a → a.f = 0) ∧ (adO f g t).length ≠ 0 ∧ (adO f g t).length ≤ f.length + g.length := by
  have hz := fr_zero gf gg
  have hs := fr_sorted f g
  have hR := fr_range gf gg
  have hl := fr_len f g
  unfold adO
  generalize frF f g = L at *
  refine ⟨?_, ?_, ?_, ?_, by simpa using hl⟩
  · rw [List.pairwise_map]; exact hs
  · intro a ha
    obtain ⟨v, hv, rfl⟩ := List.mem_map.1 ha
    exact hR v hv
  · intro a ha
    cases L with
    | nil => simp at hz
    | cons u r =>
      simp at ha; subst ha
      show u = 0
      have h1 := (hR u (by simp)).1
      rcases List.mem_cons.1 hz with h | h
      · exact h.symm
      · have := (List.pairwise_cons.1 hs).1 0 h; omega
  · intro h
    simp at h
    rw [h] at hz; simp at hz
/-- The value of both together. -/
theorem adO_val {x : Int} (hx : 0 ≤ x) : atL x 0 (adO f g t) = IntKind.i64.wrap (atL x 0 f + IntKind.i64.wrap (t * atL x 0 g)) := by
  obtain ⟨i, v, h1, h2, h3, h4⟩ := fr_at gf gg hx
  have hv0 := (fr_range gf gg v (List.mem_of_getElem? h1)).1
  have hS := (adO_sort gf gg t).1
  have hg : (adO f g t)[i]? = some (adG f g t v) := by unfold adO; simp [h1]
  have hil := (List.getElem?_eq_some_iff.1 hg).1
  have hmono : ∀ (i j : Nat) (a c : Ln), (adO f g t)[i]? = some a → (adO f g t)[j]? = some c → i < j → a.f < c.f := by
    intro i j a c ha hc hij
    obtain ⟨hi, rfl⟩ := List.getElem?_eq_some_iff.1 ha
    obtain ⟨hj, rfl⟩ := List.getElem?_eq_some_iff.1 hc
    exact List.pairwise_iff_getElem.1 hS i j hi hj hij
  have hc := cnt_of x (adO f g t) (i + 1) (by omega) (fun j l hl hj => by
    rcases Nat.lt_or_ge j i with hh | hh
    · have := hmono j i l _ hl hg hh
      have e : (adG f g t v).f = v := rfl
      omega
    · have : j = i := by omega
      subst this; rw [hg] at hl; cases hl; exact h2) (fun l hl => by
    unfold adO at hl
    rw [List.getElem?_map] at hl
    cases hw : (frF f g)[i + 1]? with
    | none => rw [hw] at hl; cases hl
    | some w =>
      rw [hw] at hl
      cases hl
      have := h3 w hw
      show ¬ w ≤ x
      omega)
  rw [atL_cnt x _ 0 hS, hc, if_neg (by omega)]
  rw [show i + 1 - 1 = i from rfl, hg]
  show atF (adG f g t v) x = _
  rw [adG_at]
  have cf : fnd x f = fnd v f := by unfold fnd; rw [cnt_same fun a ha => h4 a (by simp [ha])]
  have cg : fnd x g = fnd v g := by unfold fnd; rw [cnt_same fun a ha => h4 a (by simp [ha])]
  have e1 : lnAt f v = lnAt f x := by unfold lnAt; rw [cf]
  have e2 : lnAt g v = lnAt g x := by unfold lnAt; rw [cg]
  rw [e1, e2, lnAt_val gf hx, lnAt_val gg hx]
theorem add_val {x : Int} (hx : 0 ≤ x) : atL x 0 (joinL [] (adO f g t)) = IntKind.i64.wrap (atL x 0 f + IntKind.i64.wrap (t * atL x 0 g)) := by
  rw [(jinv _ (adO_sort gf gg t).1).val, adO_val gf gg t hx]
theorem add_err (h1 : f.length ≤ 60) (h2 : g.length ≤ 60) : ckF (joinL [] (adO f g t)) = 0 ∨ ckF (joinL [] (adO f g t)) = 50 ∨ ckF (joinL [] (adO f g t)) = 10 := by
  obtain ⟨s1, s2, s3, s4, s5⟩ := adO_sort gf gg t
  have J := jinv _ s1
  generalize joinL [] (adO f g t) = b at *
  have hne : b.length ≠ 0 := by
    intro h
    have hb : b = [] := List.length_eq_zero_iff.1 h
    have := J.hd
    rw [hb] at this
    cases hp : adO f g t with
    | nil => exact s4 (by rw [hp]; rfl)
    | cons _ _ => rw [hp] at this; simp at this
  have hle : b.length ≤ 256 := Nat.le_trans J.sub.length_le (by omega)
  have hA := ckA_mk b none (s1.sublist J.sub) (fun a ha => s2 a (J.sub.subset ha)) (fun q h => by cases h) (fun _ a ha => s3 a (by rw [← J.hd]; exact ha))
  unfold ckF
  rw [if_neg hne, if_neg (by omega)]
  rcases hA with hA | hA
  · rw [if_pos hA]
    rcases ckB_cases b with h | h
    · exact .inl h
    · exact .inr (.inr h)
  · rw [hA]
    exact .inr (.inl rfl)
end
/-- A piece behind another one: cut off ahead of it, the value there is that of the one ahead. -/
theorem Okf.at_cut {xs : List Ln} (g : Okf xs) {j : Nat} {l a : Ln} (hl : xs[j]? = some l) (ha : xs[j + 1]? = some a) : atL a.f 0 (xs.take (j + 1)) = atF l a.f := by
  have hlt := g.lt hl ha (by omega)
  have hjl : j + 1 < xs.length := (List.getElem?_eq_some_iff.1 ha).1
  have hc := cnt_of a.f (xs.take (j + 1)) (j + 1) (by simp; omega) (fun i b hb hi => by
    rw [List.getElem?_take_of_lt hi] at hb
    have := g.lt hb ha (by omega)
    omega) (fun b hb => by
    have := (List.getElem?_eq_some_iff.1 hb).1; simp at this; omega)
  rw [atL_cnt _ _ _ (g.sort.sublist (List.take_sublist _ _)), hc, if_neg (by omega)]
  have : (xs.take (j + 1))[j + 1 - 1]? = some l := by
    rw [List.getElem?_take_of_lt (by omega)]; exact hl
  rw [this]

end Go.Proofs.Ytenldcieoalgoaa
end

section
/-
  The lesser one of two pieces; a function with the other sign.
-/
namespace Go.Proofs.Ytenldcieoalgoaa
open Go Vm
set_option maxRecDepth 4000
set_option linter.unusedSimpArgs false
set_option linter.unusedVariables false

/-- From `v` up to `e`: `a` is no greater at `v`, where both have the values `p` and `q`. -/
def lsT (a b : Ln) (p q v e : Int) : Sl Ln :=
  if IntKind.i64.wrap (a.r - b.r) ≤ 0 then .l (some 1) [⟨v, p, a.r⟩]
  else if e ≤ IntKind.i64.wrap (v + IntKind.i64.wrap (Int.tdiv (IntKind.i64.wrap (q - p)) (IntKind.i64.wrap (a.r - b.r)))) then .l (some 1) [⟨v, p, a.r⟩]
  else .l none [⟨v, p, a.r⟩, ⟨IntKind.i64.wrap (IntKind.i64.wrap (v + IntKind.i64.wrap (Int.tdiv (IntKind.i64.wrap (q - p)) (IntKind.i64.wrap (a.r - b.r)))) + 1), atF b (IntKind.i64.wrap (IntKind.i64.wrap (v + IntKind.i64.wrap (Int.tdiv (IntKind.i64.wrap (q - p)) (IntKind.i64.wrap (a.r - b.r)))) + 1)), b.r⟩]
def lsS (a b : Ln) (v e : Int) : Sl Ln :=
  if atF b v < atF a v then lsT b a (atF b v) (atF a v) v e else if atF b v = atF a v ∧ b.r < a.r then lsT b a (atF b v) (atF a v) v e else lsT a b (atF a v) (atF b v) v e

set_option maxHeartbeats 1000000 in
theorem lesser32 (a b : Ln) (v e : Int) : callI Try.prog cfg 32 [.g (lne a), .g (lne b), .s (.int .i64 v), .s (.int .i64 e)] [] = some ([(lsS a b v e).d lne], []) := by
  rw [callI_eq Try.func32 rfl rfl]
  have ka := at26 a v
  have kb := at26 b v
  have happ : ∀ (c : Ln) (st : St) (h : Ln), appendD ⟨0, 82, 32, true⟩ 3 24 st (.l (some 1) [lne h]) (.l (some 1) [lne c]) = some (.a st.nx 0 2 3, { tm := st.tm, hp := (st.nx, ⟨[lne h, lne c], true, 0, true, none⟩) :: st.hp, nx := st.nx + 1 }) := fun c st h => by
    have := app_full (f := lne) (x := Sl.l (some 1) [h]) (n := 3) (bytes := 24) (fr := ⟨0, 82, 32, true⟩) (st := st) (y := .l (some 1) [lne c]) (new := [lne c]) lne_len (by intro c xs h; cases h; rfl) rfl (sizes_map 3 lne_len [c]) (by simp [Sl.xs]) (by simp [Sl.xs]) rfl
    simpa [Sl.d, Sl.xs] using this
  simp only [lne] at ka kb happ
  replace happ : ∀ (p1 p2 p3 q1 q2 q3 : Int) (st : St), appendD ⟨0, 82, 32, true⟩ 3 24 st (.l (some 1) [[.s (.int .i64 p1), .s (.int .i64 p2), .s (.int .i64 p3)]]) (.l (some 1) [[.s (.int .i64 q1), .s (.int .i64 q2), .s (.int .i64 q3)]]) = some (.a st.nx 0 2 3, { tm := st.tm, hp := (st.nx, ⟨[[.s (.int .i64 p1), .s (.int .i64 p2), .s (.int .i64 p3)], [.s (.int .i64 q1), .s (.int .i64 q2), .s (.int .i64 q3)]], true, 0, true, none⟩) :: st.hp, nx := st.nx + 1 }) := fun p1 p2 p3 q1 q2 q3 st => happ ⟨q1, q2, q3⟩ st ⟨p1, p2, p3⟩
  by_cases c1 : atF b v < atF a v
  · have hS : lsS a b v e = lsT b a (atF b v) (atF a v) v e := if_pos c1
    by_cases c3 : IntKind.i64.wrap (b.r - a.r) ≤ 0
    · simp only [Try.f32, *, go_sem, ↓reduceIte, Nat.reduceAdd, Nat.reduceSub, Nat.reduceMul, Nat.reduceLeDiff, Nat.reduceLT, Nat.reduceEqDiff, Nat.reduceBEq, Int.reduceLT, Int.reduceLE, Int.reduceEq, Int.reduceAdd, Int.reduceNeg, Int.reduceToNat, reduceCtorEq, lne, lsT, Sl.d]
    have c4 : IntKind.i64.wrap (b.r - a.r) ≠ 0 := by omega
    by_cases c5 : e ≤ IntKind.i64.wrap (v + IntKind.i64.wrap (Int.tdiv (IntKind.i64.wrap (atF a v - atF b v)) (IntKind.i64.wrap (b.r - a.r))))
    · simp only [Try.f32, *, go_sem, ↓reduceIte, Nat.reduceAdd, Nat.reduceSub, Nat.reduceMul, Nat.reduceLeDiff, Nat.reduceLT, Nat.reduceEqDiff, Nat.reduceBEq, Int.reduceLT, Int.reduceLE, Int.reduceEq, Int.reduceAdd, Int.reduceNeg, Int.reduceToNat, reduceCtorEq, lne, lsT, Sl.d]
    have kx := at26 a (IntKind.i64.wrap (IntKind.i64.wrap (v + IntKind.i64.wrap (Int.tdiv (IntKind.i64.wrap (atF a v - atF b v)) (IntKind.i64.wrap (b.r - a.r)))) + 1))
    simp only [lne] at kx
    simp only [Try.f32, *, go_sem, ↓reduceIte, Nat.reduceAdd, Nat.reduceSub, Nat.reduceMul, Nat.reduceLeDiff, Nat.reduceLT, Nat.reduceEqDiff, Nat.reduceBEq, Int.reduceLT, Int.reduceLE, Int.reduceEq, Int.reduceAdd, Int.reduceNeg, Int.reduceToNat, reduceCtorEq, lne, lsT, Sl.d]
  by_cases c2 : atF b v = atF a v
  · by_cases c2' : b.r < a.r
    · have hS : lsS a b v e = lsT b a (atF b v) (atF a v) v e := by unfold lsS; rw [if_neg c1, if_pos ⟨c2, c2'⟩]
      replace c2 := eq_true c2
      by_cases c3 : IntKind.i64.wrap (b.r - a.r) ≤ 0
      · simp only [Try.f32, *, go_sem, ↓reduceIte, Nat.reduceAdd, Nat.reduceSub, Nat.reduceMul, Nat.reduceLeDiff, Nat.reduceLT, Nat.reduceEqDiff, Nat.reduceBEq, Int.reduceLT, Int.reduceLE, Int.reduceEq, Int.reduceAdd, Int.reduceNeg, Int.reduceToNat, reduceCtorEq, lne, lsT, Sl.d]
      have c4 : IntKind.i64.wrap (b.r - a.r) ≠ 0 := by omega
      by_cases c5 : e ≤ IntKind.i64.wrap (v + IntKind.i64.wrap (Int.tdiv (IntKind.i64.wrap (atF a v - atF b v)) (IntKind.i64.wrap (b.r - a.r))))
      · simp only [Try.f32, *, go_sem, ↓reduceIte, Nat.reduceAdd, Nat.reduceSub, Nat.reduceMul, Nat.reduceLeDiff, Nat.reduceLT, Nat.reduceEqDiff, Nat.reduceBEq, Int.reduceLT, Int.reduceLE, Int.reduceEq, Int.reduceAdd, Int.reduceNeg, Int.reduceToNat, reduceCtorEq, lne, lsT, Sl.d]
      have kx := at26 a (IntKind.i64.wrap (IntKind.i64.wrap (v + IntKind.i64.wrap (Int.tdiv (IntKind.i64.wrap (atF a v - atF b v)) (IntKind.i64.wrap (b.r - a.r)))) + 1))
      simp only [lne] at kx
      simp only [Try.f32, *, go_sem, ↓reduceIte, Nat.reduceAdd, Nat.reduceSub, Nat.reduceMul, Nat.reduceLeDiff, Nat.reduceLT, Nat.reduceEqDiff, Nat.reduceBEq, Int.reduceLT, Int.reduceLE, Int.reduceEq, Int.reduceAdd, Int.reduceNeg, Int.reduceToNat, reduceCtorEq, lne, lsT, Sl.d]
    · have hS : lsS a b v e = lsT a b (atF a v) (atF b v) v e := by unfold lsS; rw [if_neg c1, if_neg (fun h => c2' h.2)]
      replace c2 := eq_true c2
      by_cases c3 : IntKind.i64.wrap (a.r - b.r) ≤ 0
      · simp only [Try.f32, *, go_sem, ↓reduceIte, Nat.reduceAdd, Nat.reduceSub, Nat.reduceMul, Nat.reduceLeDiff, Nat.reduceLT, Nat.reduceEqDiff, Nat.reduceBEq, Int.reduceLT, Int.reduceLE, Int.reduceEq, Int.reduceAdd, Int.reduceNeg, Int.reduceToNat, reduceCtorEq, lne, lsT, Sl.d]
      have c4 : IntKind.i64.wrap (a.r - b.r) ≠ 0 := by omega
      by_cases c5 : e ≤ IntKind.i64.wrap (v + IntKind.i64.wrap (Int.tdiv (IntKind.i64.wrap (atF b v - atF a v)) (IntKind.i64.wrap (a.r - b.r))))
      · simp only [Try.f32, *, go_sem, ↓reduceIte, Nat.reduceAdd, Nat.reduceSub, Nat.reduceMul, Nat.reduceLeDiff, Nat.reduceLT, Nat.reduceEqDiff, Nat.reduceBEq, Int.reduceLT, Int.reduceLE, Int.reduceEq, Int.reduceAdd, Int.reduceNeg, Int.reduceToNat, reduceCtorEq, lne, lsT, Sl.d]
      have kx := at26 b (IntKind.i64.wrap (IntKind.i64.wrap (v + IntKind.i64.wrap (Int.tdiv (IntKind.i64.wrap (atF b v - atF a v)) (IntKind.i64.wrap (a.r - b.r)))) + 1))
      simp only [lne] at kx
      simp only [Try.f32, *, go_sem, ↓reduceIte, Nat.reduceAdd, Nat.reduceSub, Nat.reduceMul, Nat.reduceLeDiff, Nat.reduceLT, Nat.reduceEqDiff, Nat.reduceBEq, Int.reduceLT, Int.reduceLE, Int.reduceEq, Int.reduceAdd, Int.reduceNeg, Int.reduceToNat, reduceCtorEq, lne, lsT, Sl.d]
  · have hS : lsS a b v e = lsT a b (atF a v) (atF b v) v e := by unfold lsS; rw [if_neg c1, if_neg (fun h => c2 h.1)]
    by_cases c3 : IntKind.i64.wrap (a.r - b.r) ≤ 0
    · simp only [Try.f32, *, go_sem, ↓reduceIte, Nat.reduceAdd, Nat.reduceSub, Nat.reduceMul, Nat.reduceLeDiff, Nat.reduceLT, Nat.reduceEqDiff, Nat.reduceBEq, Int.reduceLT, Int.reduceLE, Int.reduceEq, Int.reduceAdd, Int.reduceNeg, Int.reduceToNat, reduceCtorEq, lne, lsT, Sl.d]
    have c4 : IntKind.i64.wrap (a.r - b.r) ≠ 0 := by omega
    by_cases c5 : e ≤ IntKind.i64.wrap (v + IntKind.i64.wrap (Int.tdiv (IntKind.i64.wrap (atF b v - atF a v)) (IntKind.i64.wrap (a.r - b.r))))
    · simp only [Try.f32, *, go_sem, ↓reduceIte, Nat.reduceAdd, Nat.reduceSub, Nat.reduceMul, Nat.reduceLeDiff, Nat.reduceLT, Nat.reduceEqDiff, Nat.reduceBEq, Int.reduceLT, Int.reduceLE, Int.reduceEq, Int.reduceAdd, Int.reduceNeg, Int.reduceToNat, reduceCtorEq, lne, lsT, Sl.d]
    have kx := at26 b (IntKind.i64.wrap (IntKind.i64.wrap (v + IntKind.i64.wrap (Int.tdiv (IntKind.i64.wrap (atF b v - atF a v)) (IntKind.i64.wrap (a.r - b.r)))) + 1))
    simp only [lne] at kx
    simp only [Try.f32, *, go_sem, ↓reduceIte, Nat.reduceAdd, Nat.reduceSub, Nat.reduceMul, Nat.reduceLeDiff, Nat.reduceLT, Nat.reduceEqDiff, Nat.reduceBEq, Int.reduceLT, Int.reduceLE, Int.reduceEq, Int.reduceAdd, Int.reduceNeg, Int.reduceToNat, reduceCtorEq, lne, lsT, Sl.d]

/-- A piece with the other sign. -/
def tnG (l : Ln) : Ln := ⟨l.f, IntKind.i64.wrap (-l.v), IntKind.i64.wrap (-l.r)⟩
def tnL (l : List Ln) : List Ln := l.map tnG
@[go_sem] theorem turned33 (s : Sl Ln) (hlen : s.xs.length ≤ 1000000) : callI Try.prog cfg 33 [s.d lne] [] = some ([(accS (tnL s.xs)).d lne], []) := by
  rw [callI_eq Try.func33 rfl rfl]
  simp only [Try.f33, *, go_sem, ↓reduceIte, Nat.reduceAdd, Nat.reduceSub, Nat.reduceMul, Nat.reduceLeDiff, Nat.reduceLT, Nat.reduceEqDiff, Nat.reduceBEq, Int.reduceLT, Int.reduceLE, Int.reduceEq, Int.reduceAdd, Int.reduceNeg, Int.reduceToNat, reduceCtorEq]
  generalize hx : exe _ _ _ (.loop _) _ = r
  obtain ⟨z, s1, rfl, hp⟩ := list_use hx (head0 _ _) s.xs (by omega)
    (fun i (b : List Ln) st => rdT st.tm 8 = .s (.int .i64 (i : Int)) ∧ rdT st.tm 7 = .s (.int .i64 (s.xs.length : Int)) ∧ rdT st.tm 6 = s.d lne ∧ b.length = i ∧ Acc st.hp 0 st.nx 3 (b.map lne) (rdT st.tm 3))
    (fun b l => b ++ tnL l)
    (fun r ex st2 => ex = .exit 0 ∧ Acc st2.hp 0 st2.nx 3 (r.map lne) (rdT st2.tm 3)) []
    (by simp only [*, go_sem, ↓reduceIte, Nat.reduceAdd, Nat.reduceSub, Nat.reduceMul, Nat.reduceLeDiff, Nat.reduceLT, Nat.reduceEqDiff, Nat.reduceBEq, Int.reduceLT, Int.reduceLE, Int.reduceEq, Int.reduceAdd, Int.reduceNeg, Int.reduceToNat, reduceCtorEq]; exact acc_nil _ _ _ _) (by
      clear hx
      rintro i b st a l ha hd hlt hw ⟨h8, h7, h6, hbl, hacc⟩
      generalize h3 : rdT st.tm 3 = dd at hacc
      have hi := (List.getElem?_eq_some_iff.1 ha).1
      have happ := app_one (α := Ln) (f := lne) (k := 0) (nt := 26) (fn := 33) (ro := true) (K := 0) (N := st.nx) (bytes := 24) (xs := b) (d := dd) (tnG a) lne_len (Nat.zero_le _) (by omega) (by omega)
      simp only [lne, tnG] at happ
      clear hd hlen
      simp only [*, go_sem, ↓reduceIte, Nat.reduceAdd, Nat.reduceSub, Nat.reduceMul, Nat.reduceLeDiff, Nat.reduceLT, Nat.reduceEqDiff, Nat.reduceBEq, Int.reduceLT, Int.reduceLE, Int.reduceEq, Int.reduceAdd, Int.reduceNeg, Int.reduceToNat, reduceCtorEq, lne]
      refine ⟨b ++ [tnG a], ?_⟩
      simp only [tnL, tnG, List.map_cons, List.length_append, List.length_cons, List.length_nil, List.append_assoc, List.cons_append, List.nil_append, hbl, and_true, true_and]
      exact acc_new (Nat.zero_le _) (by omega) (by simp; omega) (by simp))
    (by
      clear hx
      rintro b st ⟨h8, h7, h6, hbl, hacc⟩
      simp only [*, go_sem, ↓reduceIte, Nat.reduceAdd, Nat.reduceSub, Nat.reduceMul, Nat.reduceLeDiff, Nat.reduceLT, Nat.reduceEqDiff, Nat.reduceBEq, Int.reduceLT, Int.reduceLE, Int.reduceEq, Int.reduceAdd, Int.reduceNeg, Int.reduceToNat, reduceCtorEq, Int.lt_irrefl, tnL, List.map_nil, List.append_nil])
  clear hx
  obtain ⟨rfl, p2⟩ := hp
  generalize hd3 : rdT s1.tm 3 = dd at p2
  rw [List.nil_append] at p2
  have f1 := frzG_acc p2
  have f2 := acc_sl p2
  simp only [*, go_sem, ↓reduceIte, Nat.reduceAdd, Nat.reduceSub, Nat.reduceMul, Nat.reduceLeDiff, Nat.reduceLT, Nat.reduceEqDiff, Nat.reduceBEq, Int.reduceLT, Int.reduceLE, Int.reduceEq, Int.reduceAdd, Int.reduceNeg, Int.reduceToNat, reduceCtorEq]

@[go_sem] theorem straight21 (v r : Int) : callI Try.prog cfg 21 [.s (.int .i64 v), .s (.int .i64 r)] [] = some ([(Sl.l (some 1) [(⟨0, v, r⟩ : Ln)]).d lne], []) := by
  rw [callI_eq Try.func21 rfl rfl]
  simp only [Try.f21, *, go_sem, ↓reduceIte, Nat.reduceAdd, Nat.reduceSub, Nat.reduceMul, Nat.reduceLeDiff, Nat.reduceLT, Nat.reduceEqDiff, Nat.reduceBEq, Int.reduceLT, Int.reduceLE, Int.reduceEq, Int.reduceAdd, Int.reduceNeg, Int.reduceToNat, reduceCtorEq, lne, Sl.d]
/-- A function with a corner. -/
def coS (at_ r : Int) : Sl Ln :=
  if 10000000000 < at_ then .l (some 1) [⟨0, 0, 0⟩] else if r = 0 then .l (some 1) [⟨0, 0, 0⟩] else if at_ ≤ 0 then .l (some 1) [⟨0, IntKind.i64.wrap (IntKind.i64.wrap (-at_) * r), r⟩] else .l (some 2) [⟨0, 0, 0⟩, ⟨at_, 0, r⟩]
theorem corner20 (at_ r : Int) : callI Try.prog cfg 20 [.s (.int .i64 at_), .s (.int .i64 r)] [] = some ([(coS at_ r).d lne], []) := by
  rw [callI_eq Try.func20 rfl rfl]
  by_cases c1 : 10000000000 < at_
  · simp only [Try.f20, *, go_sem, ↓reduceIte, Nat.reduceAdd, Nat.reduceSub, Nat.reduceMul, Nat.reduceLeDiff, Nat.reduceLT, Nat.reduceEqDiff, Nat.reduceBEq, Int.reduceLT, Int.reduceLE, Int.reduceEq, Int.reduceAdd, Int.reduceNeg, Int.reduceToNat, reduceCtorEq, lne, coS, Sl.d]
  by_cases c2 : r = 0
  · replace c2 := eq_true c2
    simp only [Try.f20, *, go_sem, ↓reduceIte, Nat.reduceAdd, Nat.reduceSub, Nat.reduceMul, Nat.reduceLeDiff, Nat.reduceLT, Nat.reduceEqDiff, Nat.reduceBEq, Int.reduceLT, Int.reduceLE, Int.reduceEq, Int.reduceAdd, Int.reduceNeg, Int.reduceToNat, reduceCtorEq, lne, coS, Sl.d]
  by_cases c3 : at_ ≤ 0
  · simp only [Try.f20, *, go_sem, ↓reduceIte, Nat.reduceAdd, Nat.reduceSub, Nat.reduceMul, Nat.reduceLeDiff, Nat.reduceLT, Nat.reduceEqDiff, Nat.reduceBEq, Int.reduceLT, Int.reduceLE, Int.reduceEq, Int.reduceAdd, Int.reduceNeg, Int.reduceToNat, reduceCtorEq, lne, coS, Sl.d]
  simp only [Try.f20, *, go_sem, ↓reduceIte, Nat.reduceAdd, Nat.reduceSub, Nat.reduceMul, Nat.reduceLeDiff, Nat.reduceLT, Nat.reduceEqDiff, Nat.reduceBEq, Int.reduceLT, Int.reduceLE, Int.reduceEq, Int.reduceAdd, Int.reduceNeg, Int.reduceToNat, reduceCtorEq, lne, coS, Sl.d]

end Go.Proofs.Ytenldcieoalgoaa
end

section
/-
  At each number the lesser value, or the greater one: the walk.
-/
namespace Go.Proofs.Ytenldcieoalgoaa
open Go Vm
set_option maxRecDepth 4000
set_option linter.unusedSimpArgs false
set_option linter.unusedVariables false

theorem lsT_ne (a b : Ln) (p q v e : Int) : (lsT a b p q v e).xs ≠ [] ∧ (lsT a b p q v e).xs.length ≤ 2 := by
  unfold lsT
  split
  · simp [Sl.xs]
  · split <;> simp [Sl.xs]
theorem lsS_ne (a b : Ln) (v e : Int) : (lsS a b v e).xs ≠ [] ∧ (lsS a b v e).xs.length ≤ 2 := by
  unfold lsS
  split
  · exact lsT_ne _ _ _ _ _ _
  · split <;> exact lsT_ne _ _ _ _ _ _
/-- All pieces of the lesser function. -/
def lsL (f g : List Ln) : List Int → List Ln
  | [] => []
  | v :: r => (lsS (lnAt f v) (lnAt g v) v (enD r)).xs ++ lsL f g r
theorem lsL_len (f g : List Ln) : ∀ L, (lsL f g L).length ≤ 2 * L.length
  | [] => by simp [lsL]
  | v :: r => by
    have h1 := (lsS_ne (lnAt f v) (lnAt g v) v (enD r)).2
    have h2 := lsL_len f g r
    simp only [lsL, List.length_append, List.length_cons]
    omega
def lsO (f g : List Ln) : List Ln := lsL f g (frF f g)
def lsE (f g : List Ln) : Int := if boF f g = 0 then ckF (joinL [] (lsO f g)) else boF f g
def lsR (f g : List Ln) : List Ln := if lsE f g = 0 then joinL [] (lsO f g) else []

set_option maxHeartbeats 1000000 in
theorem least16 (x y : Sl Ln) (h1 : x.xs.length < 9223372036854775808) (h2 : y.xs.length < 9223372036854775808) : callI Try.prog cfg 16 [x.d lne, y.d lne] [] = some ([(accS (lsR x.xs y.xs)).d lne, .s (.int .i64 (lsE x.xs y.xs))], []) := by
  rw [callI_eq Try.func16 rfl rfl]
  have hnil : (accS ([] : List Ln)).d lne = nilS := rfl
  have hbo := both29 x y h1 h2
  by_cases hc : boF x.xs y.xs = 0
  case neg =>
    have e1 : lsE x.xs y.xs = boF x.xs y.xs := if_neg hc
    have e2 : lsR x.xs y.xs = [] := by unfold lsR; rw [e1, if_neg hc]
    simp only [Try.f16, *, go_sem, ↓reduceIte, Nat.reduceAdd, Nat.reduceSub, Nat.reduceMul, Nat.reduceLeDiff, Nat.reduceLT, Nat.reduceEqDiff, Nat.reduceBEq, Int.reduceLT, Int.reduceLE, Int.reduceEq, Int.reduceAdd, Int.reduceNeg, Int.reduceToNat, reduceCtorEq]
  obtain ⟨hcx, hcy⟩ := boF_ok hc
  have gx := ckF_ok hcx
  have gy := ckF_ok hcy
  have e1 : lsE x.xs y.xs = ckF (joinL [] (lsO x.xs y.xs)) := by unfold lsE; rw [if_pos hc]
  rw [hc] at hbo
  have hfr := froms30 x y (by have := gx.most; omega) (by have := gy.most; omega) (by have := gx.ne; omega) (by have := gy.ne; omega)
  have hll : (frF x.xs y.xs).length ≤ 1000 := by
    have := fr_len x.xs y.xs
    have := gx.most
    have := gy.most
    omega
  have hlen2 : (lsO x.xs y.xs).length ≤ 1000000 := by
    have := lsL_len x.xs y.xs (frF x.xs y.xs)
    unfold lsO; omega
  have hd31 := done31 (accS (lsO x.xs y.xs)) (by rw [accS_xs]; exact hlen2)
  rw [accS_xs] at hd31
  have hO : Unit → lsO x.xs y.xs = lsL x.xs y.xs (frF x.xs y.xs) := fun _ => rfl
  have hw1 : ∀ v, callI Try.prog cfg 25 [x.d lne, .s (.int .i64 v)] [] = some ([.s (.int .i64 (fnd v x.xs : Nat))], []) := fun v => find25 x v gx.most gx.sort
  have hw2 : ∀ v, callI Try.prog cfg 25 [y.d lne, .s (.int .i64 v)] [] = some ([.s (.int .i64 (fnd v y.xs : Nat))], []) := fun v => find25 y v gy.most gy.sort
  have hx1 : Unit → ∀ v, x.xs[fnd v x.xs]? = some (lnAt x.xs v) := fun _ v => lnAt_some gx v
  have hy1 : Unit → ∀ v, y.xs[fnd v y.xs]? = some (lnAt y.xs v) := fun _ v => lnAt_some gy v
  generalize frF x.xs y.xs = L at *
  clear gx gy hcx hcy
  simp only [Try.f16, *, go_sem, ↓reduceIte, Nat.reduceAdd, Nat.reduceSub, Nat.reduceMul, Nat.reduceLeDiff, Nat.reduceLT, Nat.reduceEqDiff, Nat.reduceBEq, Int.reduceLT, Int.reduceLE, Int.reduceEq, Int.reduceAdd, Int.reduceNeg, Int.reduceToNat, reduceCtorEq]
  generalize hx : exe _ _ _ (.loop _) _ = r
  obtain ⟨z, s1, rfl, hp⟩ := list_use hx (head0 _ _) L (by omega)
    (fun i (b : List Ln) st => rdT st.tm 23 = .s (.int .i64 (i : Int)) ∧ rdT st.tm 22 = .s (.int .i64 (L.length : Int)) ∧ rdT st.tm 21 = (Sl.l none L).d ieD ∧ rdT st.tm 8 = (Sl.l none L).d ieD ∧ rdT st.tm 0 = x.d lne ∧ rdT st.tm 1 = y.d lne ∧ b.length ≤ 2 * i ∧ Acc st.hp 0 st.nx 3 (b.map lne) (rdT st.tm 7))
    (fun b l => b ++ lsL x.xs y.xs l)
    (fun r ex st2 => ex = .exit 0 ∧ Acc st2.hp 0 st2.nx 3 (r.map lne) (rdT st2.tm 7)) []
    (by simp only [*, go_sem, ↓reduceIte, Nat.reduceAdd, Nat.reduceSub, Nat.reduceMul, Nat.reduceLeDiff, Nat.reduceLT, Nat.reduceEqDiff, Nat.reduceBEq, Int.reduceLT, Int.reduceLE, Int.reduceEq, Int.reduceAdd, Int.reduceNeg, Int.reduceToNat, reduceCtorEq]; exact acc_nil _ _ _ _) (by
      clear hx hd31 hlen2 e1 hO hfr hbo hc
      rintro i b st v rest ha hd hlt hw ⟨h23, h22, h21, h8, h0, h1, hbl, hacc⟩
      generalize h7 : rdT st.tm 7 = dd at hacc
      have hi := (List.getElem?_eq_some_iff.1 ha).1
      have hL : L.length = i + 1 + rest.length := by
        have := congrArg List.length hd
        simp at this
        omega
      have m0 : (L.map ieD)[i]? = some (ieD v) := by simp [ha]
      have k1 := hw1 v
      have k2 := hw2 v
      have hxa := hx1 () v
      have hyb := hy1 () v
      have hS : Unit → lsL x.xs y.xs (v :: rest) = (lsS (lnAt x.xs v) (lnAt y.xs v) v (enD rest)).xs ++ lsL x.xs y.xs rest := fun _ => rfl
      generalize lnAt x.xs v = a at *
      generalize lnAt y.xs v = c at *
      generalize fnd v x.xs = i1 at *
      generalize fnd v y.xs = i2 at *
      have kl := lesser32 a c v (enD rest)
      have hne := lsS_ne a c v (enD rest)
      generalize lsS a c v (enD rest) = s at *
      have hemp : (s.xs.map lne).isEmpty = false := by cases hs : s.xs with | nil => exact absurd hs hne.1 | cons _ _ => rfl
      have hsl : s.xs.length ≤ 2 := hne.2
      have hspos : s.xs.length ≠ 0 := fun h => hne.1 (List.length_eq_zero_iff.1 h)
      have happ := fun (tm : List (Nat × D)) (hp : List (Nat × Blk)) (nx : Nat) (h : Vm.Acc hp 0 st.nx 3 (b.map lne) dd) => app_acc (fr := ⟨0, 61, 16, true⟩) (st := ⟨tm, hp, nx⟩) (bytes := 24) (y := s.d lne) (new := s.xs.map lne) h (Nat.zero_le _) (peek_sl _ s) (sizes_map 3 lne_len _) hemp (by simp; omega) (by simp; omega)
      simp only [lne] at kl
      have hfin : ∀ w : List Ln, b ++ (s.xs ++ w) = (b ++ s.xs) ++ w := fun w => (List.append_assoc _ _ _).symm
      have hbl2 : (b ++ s.xs).length ≤ 2 * (i + 1) := by simp; omega
      have hnil2 : b ++ s.xs ≠ [] := by simp [hne.1]
      have hmap : List.map lne b ++ List.map lne s.xs = (b ++ s.xs).map lne := by simp
      have hlen3 : (List.map lne b).length + (List.map lne s.xs).length = (b ++ s.xs).length := by simp
      rw [hmap, hlen3] at happ
      replace hS := hS ()
      have goal2 : ∀ (hp : List (Nat × Blk)) (id N : Nat), id < N → ∃ b', (b'.length ≤ 2 * (i + 1) ∧ Vm.Acc ((id, ⟨(b ++ s.xs).map lne, true, 0, true, none⟩) :: hp) 0 N 3 (b'.map lne) (.a id 0 (b ++ s.xs).length 3)) ∧ b ++ (s.xs ++ lsL x.xs y.xs rest) = b' ++ lsL x.xs y.xs rest := fun hp id N h =>
        ⟨b ++ s.xs, ⟨hbl2, acc_new (Nat.zero_le _) h (by simp) (by simpa using hnil2)⟩, hfin _⟩
      generalize hB : b ++ s.xs = B at *
      cases rest with
      | nil =>
        have h4 : ¬ ((i + 1 : Nat) : Int) < (L.length : Int) := by simp at hL; omega
        clear hd hL hi hw1 hw2 hx1 hy1 hne hfin hbl2 hnil2 hmap hlen3 hB hemp hsl hspos hll
        simp only [enD] at kl
        simp only [*, go_sem, ↓reduceIte, Nat.reduceAdd, Nat.reduceSub, Nat.reduceMul, Nat.reduceLeDiff, Nat.reduceLT, Nat.reduceEqDiff, Nat.reduceBEq, Int.reduceLT, Int.reduceLE, Int.reduceEq, Int.reduceAdd, Int.reduceNeg, Int.reduceToNat, reduceCtorEq, lne, ieD]
        exact goal2 _ _ _ (by omega)
      | cons w rest =>
        have h4 : ((i + 1 : Nat) : Int) < (L.length : Int) := by simp at hL; omega
        have h6 : L[i + 1]? = some w := by
          have : (L.drop i)[1]? = some w := by rw [hd]; rfl
          simpa using this
        clear hd hL hi hw1 hw2 hx1 hy1 hne hfin hbl2 hnil2 hmap hlen3 hB hemp hsl hspos hll
        simp only [enD] at kl
        simp only [*, go_sem, ↓reduceIte, Nat.reduceAdd, Nat.reduceSub, Nat.reduceMul, Nat.reduceLeDiff, Nat.reduceLT, Nat.reduceEqDiff, Nat.reduceBEq, Int.reduceLT, Int.reduceLE, Int.reduceEq, Int.reduceAdd, Int.reduceNeg, Int.reduceToNat, reduceCtorEq, lne, ieD]
        exact goal2 _ _ _ (by omega))
    (by
      clear hx hd31 hlen2 e1 hO hfr hbo hc
      rintro b st ⟨h23, h22, h21, h8, h0, h1, hbl, hacc⟩
      simp only [*, go_sem, ↓reduceIte, Nat.reduceAdd, Nat.reduceSub, Nat.reduceMul, Nat.reduceLeDiff, Nat.reduceLT, Nat.reduceEqDiff, Nat.reduceBEq, Int.reduceLT, Int.reduceLE, Int.reduceEq, Int.reduceAdd, Int.reduceNeg, Int.reduceToNat, reduceCtorEq, Int.lt_irrefl, lsL, List.append_nil])
  clear hx
  obtain ⟨rfl, p2⟩ := hp
  generalize hd3 : rdT s1.tm 7 = dd at p2
  rw [List.nil_append, ← hO ()] at p2
  have f1 := frzG_acc p2
  have f2 := acc_sl p2
  by_cases hz : ckF (joinL [] (lsO x.xs y.xs)) = 0
  · have e2 : lsR x.xs y.xs = joinL [] (lsO x.xs y.xs) := by unfold lsR; rw [e1, if_pos hz]
    obtain ⟨LL, hL⟩ := accS_l (ckF_ok hz).ne
    rw [if_pos hz, hL] at hd31
    clear hO hlen2 p2 hc hx1 hy1
    simp only [*, go_sem, ↓reduceIte, Nat.reduceAdd, Nat.reduceSub, Nat.reduceMul, Nat.reduceLeDiff, Nat.reduceLT, Nat.reduceEqDiff, Nat.reduceBEq, Int.reduceLT, Int.reduceLE, Int.reduceEq, Int.reduceAdd, Int.reduceNeg, Int.reduceToNat, reduceCtorEq]
  · have e2 : lsR x.xs y.xs = [] := by unfold lsR; rw [e1, if_neg hz]
    rw [if_neg hz] at hd31
    clear hO hlen2 p2 hc hx1 hy1
    simp only [*, go_sem, ↓reduceIte, Nat.reduceAdd, Nat.reduceSub, Nat.reduceMul, Nat.reduceLeDiff, Nat.reduceLT, Nat.reduceEqDiff, Nat.reduceBEq, Int.reduceLT, Int.reduceLE, Int.reduceEq, Int.reduceAdd, Int.reduceNeg, Int.reduceToNat, reduceCtorEq]

def grE (f g : List Ln) : Int := if boF f g = 0 then lsE (tnL f) (tnL g) else boF f g
def grR (f g : List Ln) : List Ln := if grE f g = 0 then tnL (lsR (tnL f) (tnL g)) else []
theorem tnL_len (l : List Ln) : (tnL l).length = l.length := by simp [tnL]
theorem lsR_len (f g : List Ln) : (lsR f g).length ≤ 256 := by
  unfold lsR
  split
  · rename_i h
    unfold lsE at h
    split at h
    · exact (ckF_ok h).most
    · rename_i h2; exact absurd h h2
  · simp
theorem greatest17 (x y : Sl Ln) (h1 : x.xs.length < 9223372036854775808) (h2 : y.xs.length < 9223372036854775808) : callI Try.prog cfg 17 [x.d lne, y.d lne] [] = some ([(accS (grR x.xs y.xs)).d lne, .s (.int .i64 (grE x.xs y.xs))], []) := by
  rw [callI_eq Try.func17 rfl rfl]
  have hnil : (accS ([] : List Ln)).d lne = nilS := rfl
  have hbo := both29 x y h1 h2
  by_cases hc : boF x.xs y.xs = 0
  case neg =>
    have e1 : grE x.xs y.xs = boF x.xs y.xs := if_neg hc
    have e2 : grR x.xs y.xs = [] := by unfold grR; rw [e1, if_neg hc]
    simp only [Try.f17, *, go_sem, ↓reduceIte, Nat.reduceAdd, Nat.reduceSub, Nat.reduceMul, Nat.reduceLeDiff, Nat.reduceLT, Nat.reduceEqDiff, Nat.reduceBEq, Int.reduceLT, Int.reduceLE, Int.reduceEq, Int.reduceAdd, Int.reduceNeg, Int.reduceToNat, reduceCtorEq]
  obtain ⟨hcx, hcy⟩ := boF_ok hc
  have mx := (ckF_ok hcx).most
  have my := (ckF_ok hcy).most
  have e1 : grE x.xs y.xs = lsE (tnL x.xs) (tnL y.xs) := if_pos hc
  rw [hc] at hbo
  have t1 := turned33 x (by omega)
  have t2 := turned33 y (by omega)
  have hl := least16 (accS (tnL x.xs)) (accS (tnL y.xs)) (by rw [accS_xs, tnL_len]; omega) (by rw [accS_xs, tnL_len]; omega)
  rw [accS_xs, accS_xs] at hl
  have hle := lsR_len (tnL x.xs) (tnL y.xs)
  have t3 := turned33 (accS (lsR (tnL x.xs) (tnL y.xs))) (by rw [accS_xs]; omega)
  rw [accS_xs] at t3
  by_cases hz : lsE (tnL x.xs) (tnL y.xs) = 0
  · have e2 : grR x.xs y.xs = tnL (lsR (tnL x.xs) (tnL y.xs)) := by unfold grR; rw [e1, if_pos hz]
    rw [hz] at hl e1
    clear hz hc mx my hle hcx hcy
    simp only [Try.f17, *, go_sem, ↓reduceIte, Nat.reduceAdd, Nat.reduceSub, Nat.reduceMul, Nat.reduceLeDiff, Nat.reduceLT, Nat.reduceEqDiff, Nat.reduceBEq, Int.reduceLT, Int.reduceLE, Int.reduceEq, Int.reduceAdd, Int.reduceNeg, Int.reduceToNat, reduceCtorEq]
  · have e2 : grR x.xs y.xs = [] := by unfold grR; rw [e1, if_neg hz]
    clear hc mx my hle hcx hcy
    simp only [Try.f17, *, go_sem, ↓reduceIte, Nat.reduceAdd, Nat.reduceSub, Nat.reduceMul, Nat.reduceLeDiff, Nat.reduceLT, Nat.reduceEqDiff, Nat.reduceBEq, Int.reduceLT, Int.reduceLE, Int.reduceEq, Int.reduceAdd, Int.reduceNeg, Int.reduceToNat, reduceCtorEq]

end Go.Proofs.Ytenldcieoalgoaa
end

section
/-
  The law of the lesser value: plain.
-/
namespace Go.Proofs.Ytenldcieoalgoaa
open Go Vm
set_option linter.unusedSimpArgs false
set_option linter.unusedVariables false
set_option linter.unusedSectionVars false

theorem cnt_gt (d : Int) : ∀ (xs : List Ln) (k : Nat) (l : Ln), xs.Pairwise (fun a b => a.f < b.f) → cnt d xs ≤ k → xs[k]? = some l → d < l.f
  | [], k, l, _, _, h => by simp at h
  | a :: r, k, l, hs, hk, hl => by
    obtain ⟨s1, s2⟩ := List.pairwise_cons.1 hs
    by_cases hc : a.f ≤ d
    · simp only [cnt, hc, if_true] at hk
      cases k with
      | zero => omega
      | succ k => exact cnt_gt d r k l s2 (by omega) (by simpa using hl)
    · cases k with
      | zero => simp at hl; subst hl; omega
      | succ k =>
        have := s1 l (List.mem_of_getElem? (by simpa using hl : r[k]? = some l))
        omega
/-- The piece in which a number is: where it begins and ends, what it gives. -/
theorem piece_at {f : List Ln} (g : Okf f) {x : Int} (h0 : 0 ≤ x) (h1 : x ≤ 10000000000) : f[fnd x f]? = some (lnAt f x) ∧ (lnAt f x).f ≤ x ∧ x ≤ endF (f.drop (fnd x f + 1)) ∧ atL x 0 f = (lnAt f x).v + (x - (lnAt f x).f) * (lnAt f x).r ∧ (lnAt f x).r ≤ 40000 ∧ -40000 ≤ (lnAt f x).r := by
  have ha := lnAt_some g x
  obtain ⟨a, h2, h3, h4⟩ := fnd_at g h0
  rw [ha] at h2
  cases h2
  refine ⟨ha, h4, ?_, ?_, (g.f0 ha).2.2.1, (g.f0 ha).2.2.2⟩
  · by_cases hn : fnd x f + 1 < f.length
    · have hb : f[fnd x f + 1]? = some f[fnd x f + 1] := by simp [hn]
      rw [(g.fin ha).2.2 _ hb]
      have := cnt_gt x f (fnd x f + 1) _ g.sort (by unfold fnd; omega) hb
      omega
    · rw [List.drop_eq_nil_of_le (by omega)]; exact h1
  · rw [← h3]; exact (g.at_eq ha h4 h1).1
theorem val_bd {f : List Ln} (g : Okf f) {x : Int} (h0 : 0 ≤ x) (h1 : x ≤ 10000000000) : -4000000000000000 ≤ atL x 0 f ∧ atL x 0 f ≤ 4000000000000000 := by
  obtain ⟨p1, p2, p3, p4, p5, p6⟩ := piece_at g h0 h1
  have hb := g.bv p1
  have he := bdF_iff.1 (ckB_ok f g.b _ _ p1).2
  have hf := g.fin p1
  rw [(g.at_eq p1 hf.1 hf.2.1).1] at he
  rw [p4]
  generalize lnAt f x = a at *
  generalize endF (f.drop (fnd x f + 1)) = e at *
  rcases (by omega : 0 ≤ a.r ∨ a.r ≤ 0) with hr | hr
  · have k1 : 0 ≤ (x - a.f) * a.r := Int.mul_nonneg (by omega) hr
    have k2 : (x - a.f) * a.r ≤ (e - a.f) * a.r := Int.mul_le_mul_of_nonneg_right (by omega) hr
    omega
  · have k1 : (x - a.f) * a.r ≤ 0 := Int.mul_nonpos_of_nonneg_of_nonpos (by omega) hr
    have k2 : (e - a.f) * a.r ≤ (x - a.f) * a.r := Int.mul_le_mul_of_nonpos_right (by omega) hr
    omega
/-- A list that is a function: what its check asks, by its values. -/
theorem ck_mk {b : List Ln} (hs : b.Pairwise (fun a b => a.f < b.f)) (hne : b.length ≠ 0) (hle : b.length ≤ 256) (hR : ∀ a ∈ b, 0 ≤ a.f ∧ a.f ≤ 10000000000 ∧ a.r ≤ 40000 ∧ -40000 ≤ a.r ∧ bdF a.v = true) (hh : ∀ a, b.head? = some a → a.f = 0)
    (hv : ∀ x, 0 ≤ x → x ≤ 10000000000 → bdF (atL x 0 b) = true) : ckF b = 0 := by
  have hA : ckA none b = 0 := ckA_mk0 b none (ckA_mk b none hs (fun a ha => ⟨(hR a ha).1, (hR a ha).2.1⟩) (fun q h => by cases h) (fun _ a ha => hh a ha)) fun a ha => ⟨(hR a ha).2.2.1, (hR a ha).2.2.2.1⟩
  have hmono : ∀ (i j : Nat) (a c : Ln), b[i]? = some a → b[j]? = some c → i < j → a.f < c.f := by
    intro i j a c ha hc hij
    obtain ⟨hi, rfl⟩ := List.getElem?_eq_some_iff.1 ha
    obtain ⟨hj, rfl⟩ := List.getElem?_eq_some_iff.1 hc
    exact List.pairwise_iff_getElem.1 hs i j hi hj hij
  have hB : ckB b = 0 := by
    refine ckB_mk b fun i q hq => ⟨(hR q (List.mem_of_getElem? hq)).2.2.2.2, ?_⟩
    have hqr := hR q (List.mem_of_getElem? hq)
    have hi := (List.getElem?_eq_some_iff.1 hq).1
    by_cases hn : i + 1 < b.length
    · have h3 : b[i + 1]? = some b[i + 1] := by simp [hn]
      rw [List.drop_eq_getElem_cons hn]
      generalize b[i + 1] = w at h3
      have hwr := hR w (List.mem_of_getElem? h3)
      have hqw := hmono i (i + 1) q w hq h3 (by omega)
      have he : endF (w :: b.drop (i + 1 + 1)) = w.f - 1 := by simp only [endF]; exact wrap_ok (by omega) (by omega)
      rw [he]
      have hc := cnt_of (w.f - 1) b (i + 1) (by omega) (fun j l hl hj => by
        rcases Nat.lt_or_ge j i with hh | hh
        · have := hmono j i l q hl hq hh; omega
        · have : j = i := by omega
          subst this; rw [hq] at hl; cases hl; omega) (fun l hl => by rw [h3] at hl; cases hl; omega)
      have h := hv (w.f - 1) (by omega) (by omega)
      rw [atL_cnt _ b 0 hs, hc, if_neg (by omega)] at h
      simpa [hq] using h
    · rw [List.drop_eq_nil_of_le (by omega)]
      have hc := cnt_of 10000000000 b (i + 1) (by omega) (fun j l hl hj => (hR l (List.mem_of_getElem? hl)).2.1) (fun l hl => by
        have := (List.getElem?_eq_some_iff.1 hl).1; omega)
      have h := hv 10000000000 (by omega) (by omega)
      rw [atL_cnt _ b 0 hs, hc, if_neg (by omega)] at h
      show bdF (atF q 10000000000) = true
      simpa [hq] using h
  unfold ckF
  rw [if_neg hne, if_neg (by omega), if_pos hA]
  exact hB

/-! One segment -/
theorem atF_real {v p r x : Int} (h1 : -4000000000000000 ≤ p + (x - v) * r) (h2 : p + (x - v) * r ≤ 4000000000000000) : atF ⟨v, p, r⟩ x = p + (x - v) * r := by
  rw [atF_eq]; exact wrap_ok (by show _ ≤ p + (x - v) * r; omega) (by show p + (x - v) * r < _; omega)
/-- What a segment's pieces are. -/
structure Seg (S : List Ln) (v e : Int) (F G : Int → Int) : Prop where
  val : ∀ x o, v ≤ x → x ≤ e → (atL x o S = F x ∧ F x ≤ G x) ∨ (atL x o S = G x ∧ G x ≤ F x)
  rng : ∀ a ∈ S, v ≤ a.f ∧ a.f ≤ e ∧ a.r ≤ 40000 ∧ -40000 ≤ a.r ∧ bdF a.v = true
  sort : S.Pairwise (fun a b => a.f < b.f)
  head : ∃ a r, S = a :: r ∧ a.f = v
theorem seg_swap {S : List Ln} {v e : Int} {F G : Int → Int} (h : Seg S v e F G) : Seg S v e G F := ⟨fun x o h1 h2 => (h.val x o h1 h2).symm, h.rng, h.sort, h.head⟩
theorem lsT_seg {A B : Ln} {v e : Int} {F G : Int → Int} (h0 : 0 ≤ v) (hve : v ≤ e) (he : e ≤ 10000000000) (hA : A.r ≤ 40000 ∧ -40000 ≤ A.r) (hB : B.r ≤ 40000 ∧ -40000 ≤ B.r)
    (hF : ∀ x, v ≤ x → x ≤ e → F x = F v + (x - v) * A.r) (hG : ∀ x, v ≤ x → x ≤ e → G x = G v + (x - v) * B.r) (bF : ∀ x, v ≤ x → x ≤ e → -4000000000000000 ≤ F x ∧ F x ≤ 4000000000000000) (bG : ∀ x, v ≤ x → x ≤ e → -4000000000000000 ≤ G x ∧ G x ≤ 4000000000000000)
    (hGB : ∀ x, v ≤ x → x ≤ e → atF B x = G x) (hle : F v ≤ G v) : Seg (lsT A B (F v) (G v) v e).xs v e F G := by
  have hv1 := bF v (Int.le_refl _) hve
  have hv2 := bG v (Int.le_refl _) hve
  have w1 : IntKind.i64.wrap (A.r - B.r) = A.r - B.r := wrap_ok (by omega) (by omega)
  have w2 : IntKind.i64.wrap (G v - F v) = G v - F v := wrap_ok (by omega) (by omega)
  have hfst : ∀ x, v ≤ x → x ≤ e → atF ⟨v, F v, A.r⟩ x = F x := fun x h1 h2 => by
    have := hF x h1 h2
    have hb := bF x h1 h2
    rw [atF_real (by omega) (by omega)]; exact this.symm
  have hdiff : ∀ x, v ≤ x → x ≤ e → F x - G x = (F v - G v) + (x - v) * (A.r - B.r) := fun x h1 h2 => by
    rw [hF x h1 h2, hG x h1 h2, Int.mul_sub]; omega
  have hone : (∀ x, v ≤ x → x ≤ e → F x ≤ G x) → Seg (Sl.l (some 1) [(⟨v, F v, A.r⟩ : Ln)]).xs v e F G := fun h => by
    refine ⟨fun x o h1 h2 => .inl ⟨?_, h x h1 h2⟩, fun a ha => ?_, by simp [Sl.xs], ⟨_, _, rfl, rfl⟩⟩
    · simp only [Sl.xs, atL]
      rw [if_pos (show v ≤ x from h1)]
      exact hfst x h1 h2
    · simp only [Sl.xs, List.mem_singleton] at ha
      subst ha
      exact ⟨Int.le_refl _, hve, hA.1, hA.2, bdF_iff.2 hv1⟩
  unfold lsT
  rw [w1, w2]
  by_cases hc : A.r - B.r ≤ 0
  · rw [if_pos hc]
    refine hone fun x h1 h2 => ?_
    have := hdiff x h1 h2
    have k : (x - v) * (A.r - B.r) ≤ 0 := Int.mul_nonpos_of_nonneg_of_nonpos (by omega) hc
    omega
  rw [if_neg hc, Int.tdiv_eq_ediv_of_nonneg (by omega)]
  have hcp : 0 < A.r - B.r := by omega
  generalize hc0 : A.r - B.r = c at *
  generalize hk : (G v - F v) / c = k
  have k1 : k * c ≤ G v - F v := by rw [← hk]; exact Int.ediv_mul_le _ (by omega)
  have k2 : G v - F v < (k + 1) * c := by rw [← hk]; exact Int.lt_ediv_add_one_mul_self _ hcp
  have k3 : 0 ≤ k := by rw [← hk]; exact Int.ediv_nonneg (by omega) (by omega)
  have k4 : k ≤ G v - F v := by
    have : k * 1 ≤ k * c := Int.mul_le_mul_of_nonneg_left (by omega) k3
    omega
  have w3 : IntKind.i64.wrap k = k := wrap_ok (by omega) (by omega)
  have w4 : IntKind.i64.wrap (v + k) = v + k := wrap_ok (by omega) (by omega)
  have w5 : IntKind.i64.wrap (v + k + 1) = v + k + 1 := wrap_ok (by omega) (by omega)
  rw [w3, w4, w5]
  have hlow : ∀ x, v ≤ x → x ≤ e → x ≤ v + k → F x ≤ G x := fun x h1 h2 h3 => by
    have := hdiff x h1 h2
    have : (x - v) * c ≤ k * c := Int.mul_le_mul_of_nonneg_right (by omega) (by omega)
    omega
  by_cases hek : e ≤ v + k
  · rw [if_pos hek]
    exact hone fun x h1 h2 => hlow x h1 h2 (by omega)
  rw [if_neg hek]
  have hX := hGB (v + k + 1) (by omega) (by omega)
  have bX := bG (v + k + 1) (by omega) (by omega)
  rw [hX]
  refine ⟨fun x o h1 h2 => ?_, fun a ha => ?_, ?_, ⟨_, _, rfl, rfl⟩⟩
  · simp only [Sl.xs, atL]
    rw [if_pos (show v ≤ x from h1)]
    by_cases hx : v + k + 1 ≤ x
    · right
      rw [if_pos hx]
      have hGx := hG x h1 h2
      have hGX := hG (v + k + 1) (by omega) (by omega)
      have bx := bG x h1 h2
      have e1 : G (v + k + 1) + (x - (v + k + 1)) * B.r = G x := by
        rw [hGx, hGX, Int.add_assoc, ← Int.add_mul]
        congr 2
        omega
      refine ⟨by rw [atF_real (by omega) (by omega)]; exact e1, ?_⟩
      have := hdiff x h1 h2
      have : (k + 1) * c ≤ (x - v) * c := Int.mul_le_mul_of_nonneg_right (by omega) (by omega)
      omega
    · left
      rw [if_neg hx]
      exact ⟨hfst x h1 h2, hlow x h1 h2 (by omega)⟩
  · simp only [Sl.xs, List.mem_cons, List.not_mem_nil, or_false] at ha
    rcases ha with rfl | rfl
    · exact ⟨Int.le_refl _, hve, hA.1, hA.2, bdF_iff.2 hv1⟩
    · exact ⟨by show v ≤ v + k + 1; omega, by show v + k + 1 ≤ e; omega, hB.1, hB.2, bdF_iff.2 bX⟩
  · simp only [Sl.xs, List.pairwise_cons, List.mem_singleton, List.not_mem_nil, false_implies, implies_true, List.Pairwise.nil, and_true, forall_eq]
    omega

def MinR (r a b : Int) : Prop := (r = a ∧ a ≤ b) ∨ (r = b ∧ b ≤ a)
section
variable {f g : List Ln} (gf : Okf f) (gg : Okf g)
include gf gg
theorem seg_at (i : Nat) (v : Int) (hv : (frF f g)[i]? = some v) : Seg (lsS (lnAt f v) (lnAt g v) v (enD ((frF f g).drop (i + 1)))).xs v (enD ((frF f g).drop (i + 1))) (fun x => atL x 0 f) (fun x => atL x 0 g) := by
  obtain ⟨h1, h2, h3, h4, h5⟩ := fr_next f g (fr_R gf gg) i v hv
  generalize enD ((frF f g).drop (i + 1)) = e at *
  have cf : ∀ x, v ≤ x → x ≤ e → lnAt f x = lnAt f v := fun x a1 a2 => by
    unfold lnAt fnd
    rw [cnt_same fun a ha => ⟨fun h => (h5 a (by simp [ha])).1 (by omega), fun h => by omega⟩]
  have cg : ∀ x, v ≤ x → x ≤ e → lnAt g x = lnAt g v := fun x a1 a2 => by
    unfold lnAt fnd
    rw [cnt_same fun a ha => ⟨fun h => (h5 a (by simp [ha])).1 (by omega), fun h => by omega⟩]
  have hF : ∀ x, v ≤ x → x ≤ e → atL x 0 f = atL v 0 f + (x - v) * (lnAt f v).r := fun x a1 a2 => by
    have p := (piece_at gf (by omega : 0 ≤ x) (by omega)).2.2.2.1
    have q := (piece_at gf h1 h2).2.2.2.1
    rw [cf x a1 a2] at p
    rw [p, q, Int.add_assoc, ← Int.add_mul]
    congr 2
    omega
  have hG : ∀ x, v ≤ x → x ≤ e → atL x 0 g = atL v 0 g + (x - v) * (lnAt g v).r := fun x a1 a2 => by
    have p := (piece_at gg (by omega : 0 ≤ x) (by omega)).2.2.2.1
    have q := (piece_at gg h1 h2).2.2.2.1
    rw [cg x a1 a2] at p
    rw [p, q, Int.add_assoc, ← Int.add_mul]
    congr 2
    omega
  have bF : ∀ x, v ≤ x → x ≤ e → -4000000000000000 ≤ atL x 0 f ∧ atL x 0 f ≤ 4000000000000000 := fun x a1 a2 => val_bd gf (by omega) (by omega)
  have bG : ∀ x, v ≤ x → x ≤ e → -4000000000000000 ≤ atL x 0 g ∧ atL x 0 g ≤ 4000000000000000 := fun x a1 a2 => val_bd gg (by omega) (by omega)
  have aF : ∀ x, v ≤ x → x ≤ e → atF (lnAt f v) x = atL x 0 f := fun x a1 a2 => by rw [← cf x a1 a2]; exact lnAt_val gf (by omega)
  have aG : ∀ x, v ≤ x → x ≤ e → atF (lnAt g v) x = atL x 0 g := fun x a1 a2 => by rw [← cg x a1 a2]; exact lnAt_val gg (by omega)
  have rf := (piece_at gf h1 h2).2.2.2.2
  have rg := (piece_at gg h1 h2).2.2.2.2
  have eF := aF v (Int.le_refl _) h3
  have eG := aG v (Int.le_refl _) h3
  unfold lsS
  rw [eF, eG]
  have fwd := fun hle => lsT_seg (A := lnAt f v) (B := lnAt g v) (F := fun x => atL x 0 f) (G := fun x => atL x 0 g) h1 h3 h4 rf rg hF hG bF bG aG hle
  have bwd := fun hle => lsT_seg (A := lnAt g v) (B := lnAt f v) (F := fun x => atL x 0 g) (G := fun x => atL x 0 f) h1 h3 h4 rg rf hG hF bG bF aF hle
  split
  · rename_i h; exact seg_swap (bwd (by show atL v 0 g ≤ atL v 0 f; omega))
  · split
    · rename_i h; exact seg_swap (bwd (by show atL v 0 g ≤ atL v 0 f; omega))
    · exact fwd (by show atL v 0 f ≤ atL v 0 g; omega)
theorem lsL_all : ∀ (suf : List Int), suf.Pairwise (· < ·) → (∀ v ∈ suf, 0 ≤ v ∧ v ≤ 10000000000) → (∀ i v, suf[i]? = some v → v ≤ enD (suf.drop (i + 1)) ∧ enD (suf.drop (i + 1)) ≤ 10000000000 ∧ Seg (lsS (lnAt f v) (lnAt g v) v (enD (suf.drop (i + 1)))).xs v (enD (suf.drop (i + 1))) (fun x => atL x 0 f) (fun x => atL x 0 g)) →
    (∀ x o v0, suf.head? = some v0 → v0 ≤ x → x ≤ 10000000000 → MinR (atL x o (lsL f g suf)) (atL x 0 f) (atL x 0 g)) ∧
    (∀ a ∈ lsL f g suf, (∀ v0, suf.head? = some v0 → v0 ≤ a.f) ∧ a.f ≤ 10000000000 ∧ a.r ≤ 40000 ∧ -40000 ≤ a.r ∧ bdF a.v = true) ∧ (lsL f g suf).Pairwise (fun a b => a.f < b.f) ∧ (∀ v0, suf.head? = some v0 → ∃ a r, lsL f g suf = a :: r ∧ a.f = v0)
  | [], _, _, _ => ⟨fun x o v0 h => by simp at h, fun a ha => by simp [lsL] at ha, by simp [lsL], fun v0 h => by simp at h⟩
  | v :: r, hs, hR, H => by
    obtain ⟨s1, s2⟩ := List.pairwise_cons.1 hs
    obtain ⟨k1, k2, sg⟩ := H 0 v rfl
    simp only [Nat.zero_add, List.drop_succ_cons, List.drop_zero] at k1 k2 sg
    obtain ⟨i1, i2, i3, i4⟩ := lsL_all r s2 (fun w hw => hR w (by simp [hw])) (fun i w hw => by have := H (i + 1) w (by simpa using hw); simpa using this)
    have hvr := hR v (by simp)
    have hnext : ∀ w, r.head? = some w → enD r = w - 1 := fun w hw => by
      cases r with
      | nil => simp at hw
      | cons u r => simp at hw; subst hw; have := hR u (by simp); simp only [enD]; exact wrap_ok (by omega) (by omega)
    refine ⟨fun x o v0 hv0 hx hx2 => ?_, fun a ha => ?_, ?_, fun v0 hv0 => ?_⟩
    · simp at hv0; subst hv0
      simp only [lsL]
      rw [atL_app]
      cases hr : r.head? with
      | none =>
        have : r = [] := by simpa using hr
        subst this
        exact sg.val x o hx hx2
      | some w =>
        have he := hnext w hr
        by_cases hwx : w ≤ x
        · exact i1 x _ w hr hwx hx2
        · rw [atL_far x _ (lsL f g r) (fun a ha => by have := (i2 a ha).1 w hr; omega)]
          exact sg.val x o hx (by omega)
    · simp only [lsL, List.mem_append] at ha
      rcases ha with ha | ha
      · obtain ⟨q1, q2, q3⟩ := sg.rng a ha
        exact ⟨fun v0 h => by simp at h; subst h; exact q1, by omega, q3⟩
      · obtain ⟨q1, q2⟩ := i2 a ha
        refine ⟨fun v0 h => ?_, q2⟩
        simp at h; subst h
        cases hr : r.head? with
        | none =>
          have : r = [] := by simpa using hr
          subst this
          simp [lsL] at ha
        | some w =>
          have := q1 w hr
          have := s1 w (List.mem_of_head? hr)
          omega
    · simp only [lsL]
      refine List.pairwise_append.2 ⟨sg.sort, i3, fun a ha b hb => ?_⟩
      obtain ⟨q1, q2, q3⟩ := sg.rng a ha
      cases hr : r.head? with
      | none =>
        have : r = [] := by simpa using hr
        subst this
        simp [lsL] at hb
      | some w =>
        have := (i2 b hb).1 w hr
        have := hnext w hr
        omega
    · simp at hv0; subst hv0
      obtain ⟨a, r', ha, hf⟩ := sg.head
      exact ⟨a, r' ++ lsL f g r, by simp only [lsL, ha]; rfl, hf⟩
theorem least_all : (∀ x, 0 ≤ x → x ≤ 10000000000 → MinR (atL x 0 (joinL [] (lsO f g))) (atL x 0 f) (atL x 0 g)) ∧ (f.length + g.length ≤ 128 → ckF (joinL [] (lsO f g)) = 0) := by
  have hz := fr_zero gf gg
  have hRg := fr_range gf gg
  have hsr := fr_sorted f g
  obtain ⟨i1, i2, i3, i4⟩ := lsL_all gf gg (frF f g) hsr hRg (fun i v hv => by
    have h := fr_next f g (fr_R gf gg) i v hv
    exact ⟨h.2.2.1, h.2.2.2.1, seg_at gf gg i v hv⟩)
  have hlen := lsL_len f g (frF f g)
  have hfl := fr_len f g
  have hh : (frF f g).head? = some 0 := by
    generalize frF f g = L at *
    cases L with
    | nil => simp at hz
    | cons u r =>
      have h1 := (hRg u (by simp)).1
      rcases List.mem_cons.1 hz with h | h
      · simp [← h]
      · have := (List.pairwise_cons.1 hsr).1 0 h; omega
  obtain ⟨a0, r0, e0, f0⟩ := i4 0 hh
  have J := jinv (lsL f g (frF f g)) i3
  have hval : ∀ x, 0 ≤ x → x ≤ 10000000000 → MinR (atL x 0 (joinL [] (lsO f g))) (atL x 0 f) (atL x 0 g) := fun x h0 h1 => by
    have := i1 x 0 0 hh h0 h1
    rw [← J.val] at this
    exact this
  refine ⟨hval, fun h128 => ?_⟩
  unfold lsO at hval ⊢
  generalize joinL [] (lsL f g (frF f g)) = b at *
  refine ck_mk (i3.sublist J.sub) ?_ (Nat.le_trans J.sub.length_le (by omega)) (fun a ha => ?_) (fun a ha => ?_) fun x h0 h1 => ?_
  · intro h
    have hb : b = [] := List.length_eq_zero_iff.1 h
    have := J.hd
    rw [hb, e0] at this
    simp at this
  · obtain ⟨q1, q2⟩ := i2 a (J.sub.subset ha)
    exact ⟨q1 0 hh, q2⟩
  · rw [J.hd, e0] at ha
    simp at ha; subst ha; exact f0
  · have v1 := val_bd gf h0 h1
    have v2 := val_bd gg h0 h1
    rcases hval x h0 h1 with ⟨h, _⟩ | ⟨h, _⟩ <;> rw [h]
    · exact bdF_iff.2 v1
    · exact bdF_iff.2 v2
end
/-! The other sign -/
theorem tnG_at (l : Ln) (x : Int) : atF (tnG l) x = IntKind.i64.wrap (-(atF l x)) := by
  rw [atF_eq (tnG l) x]
  apply wrap_cg
  have h1 : Cg (IntKind.i64.wrap (-l.v) + (x - l.f) * IntKind.i64.wrap (-l.r)) (-l.v + (x - l.f) * (-l.r)) := (cg_wrap _).add ((cg_wrap _).mulL _)
  have h2 : Cg (-(atF l x)) (-(l.v + (x - l.f) * l.r)) := by
    obtain ⟨k, hk⟩ := atF_cg l x
    exact ⟨-k, by rw [hk]; omega⟩
  have e : -l.v + (x - l.f) * (-l.r) = -(l.v + (x - l.f) * l.r) := by rw [Int.mul_neg]; omega
  exact h1.trans (e ▸ h2.symm)
theorem tnL_val (x : Int) : ∀ (l : List Ln) (o : Int), IntKind.i64.wrap (-(IntKind.i64.wrap (-o))) = o → (∀ a ∈ l, a.f ≤ x → True) → atL x (IntKind.i64.wrap (-o)) (tnL l) = IntKind.i64.wrap (-(atL x o l))
  | [], o, _, _ => rfl
  | a :: r, o, h, _ => by
    simp only [tnL, List.map_cons, atL]
    have e : (tnG a).f = a.f := rfl
    rw [e]
    split
    · rw [tnG_at]
      have h2 : IntKind.i64.wrap (-(IntKind.i64.wrap (-(atF a x)))) = atF a x := by
        have : IntKind.i64.wrap (-(IntKind.i64.wrap (-(atF a x)))) = IntKind.i64.wrap (atF a x) := by
          apply wrap_cg
          obtain ⟨k, hk⟩ := cg_wrap (-(atF a x))
          exact ⟨-k, by rw [hk]; omega⟩
        rw [this]
        unfold atF
        apply wrap_cg
        exact cg_wrap _
      exact tnL_val x r _ h2 (fun _ _ _ => trivial)
    · exact tnL_val x r o h (fun _ _ _ => trivial)
theorem turn_val {f : List Ln} (g : Okf f) {x : Int} (h0 : 0 ≤ x) (h1 : x ≤ 10000000000) : atL x 0 (tnL f) = -(atL x 0 f) := by
  have := tnL_val x f 0 (by decide) (fun _ _ _ => trivial)
  have e : IntKind.i64.wrap (-0) = 0 := by decide
  rw [e] at this
  have hb := val_bd g h0 h1
  rw [this]
  exact wrap_ok (by omega) (by omega)
theorem turn_ok {f : List Ln} (g : Okf f) : ckF (tnL f) = 0 := by
  refine ck_mk ?_ (by rw [tnL_len]; exact g.ne) (by rw [tnL_len]; exact g.most) (fun a ha => ?_) (fun a ha => ?_) fun x h0 h1 => ?_
  · unfold tnL
    rw [List.pairwise_map]
    exact g.sort
  · obtain ⟨c, hc, rfl⟩ := List.mem_map.1 ha
    obtain ⟨i, hi⟩ := List.getElem?_of_mem hc
    have hf := g.f0 hi
    have hv := g.bv hi
    have e1 : (tnG c).r = -c.r := wrap_ok (by omega) (by omega)
    have e2 : (tnG c).v = -c.v := wrap_ok (by omega) (by omega)
    rw [e1, e2]
    exact ⟨hf.1, hf.2.1, by omega, by omega, bdF_iff.2 ⟨by omega, by omega⟩⟩
  · unfold tnL at ha
    rw [List.head?_map] at ha
    cases hh : f.head? with
    | none => rw [hh] at ha; cases ha
    | some c =>
      rw [hh] at ha; cases ha
      exact g.head c (by rw [← List.head?_eq_getElem?]; exact hh)
  · have hb := val_bd g h0 h1
    rw [turn_val g h0 h1]
    exact bdF_iff.2 ⟨by omega, by omega⟩
/-- The greater values. -/
theorem ls_ok {f g : List Ln} (hf : ckF f = 0) (hg : ckF g = 0) (h128 : f.length + g.length ≤ 128) : lsE f g = 0 ∧ lsR f g = joinL [] (lsO f g) ∧ ckF (lsR f g) = 0 := by
  have h := (least_all (ckF_ok hf) (ckF_ok hg)).2 h128
  have hb : boF f g = 0 := by unfold boF; rw [if_pos hf, hg]
  have e1 : lsE f g = 0 := by unfold lsE; rw [if_pos hb, h]
  have e2 : lsR f g = joinL [] (lsO f g) := by unfold lsR; rw [if_pos e1]
  exact ⟨e1, e2, by rw [e2]; exact h⟩
theorem great_all {f g : List Ln} (hf : ckF f = 0) (hg : ckF g = 0) (h128 : f.length + g.length ≤ 128) : grE f g = 0 ∧ lsE f g = 0 ∧ ckF (lsR f g) = 0 ∧ ckF (grR f g) = 0 ∧ (∀ x, 0 ≤ x → x ≤ 10000000000 → atL x 0 (lsR f g) = (if atL x 0 g < atL x 0 f then atL x 0 g else atL x 0 f) ∧ atL x 0 (grR f g) = (if atL x 0 f < atL x 0 g then atL x 0 g else atL x 0 f)) := by
  have gf := ckF_ok hf
  have gg := ckF_ok hg
  have tf := turn_ok gf
  have tg := turn_ok gg
  obtain ⟨a1, a2, a3⟩ := ls_ok hf hg h128
  obtain ⟨b1, b2, b3⟩ := ls_ok tf tg (by rw [tnL_len, tnL_len]; exact h128)
  have hb : boF f g = 0 := by unfold boF; rw [if_pos hf, hg]
  have c1 : grE f g = 0 := by unfold grE; rw [if_pos hb, b1]
  have c2 : grR f g = tnL (lsR (tnL f) (tnL g)) := by unfold grR; rw [if_pos c1]
  have gl := ckF_ok b3
  refine ⟨c1, a1, a3, by rw [c2]; exact turn_ok gl, fun x h0 h1 => ⟨?_, ?_⟩⟩
  · rw [a2]
    rcases (least_all gf gg).1 x h0 h1 with ⟨h, h2⟩ | ⟨h, h2⟩ <;> rw [h]
    · rw [if_neg (by omega)]
    · split <;> omega
  · rw [c2, turn_val gl h0 h1, b2]
    have v1 := turn_val gf h0 h1
    have v2 := turn_val gg h0 h1
    rcases (least_all (ckF_ok tf) (ckF_ok tg)).1 x h0 h1 with ⟨h, h2⟩ | ⟨h, h2⟩ <;> rw [h, v1, v2] at * <;> split <;> omega

end Go.Proofs.Ytenldcieoalgoaa
end

section
/-
  The law of a function with a corner.
-/
namespace Go.Proofs.Ytenldcieoalgoaa
open Go Vm
set_option maxRecDepth 4000
set_option linter.unusedSimpArgs false
set_option linter.unusedVariables false

def mxw (x : Int) : Int := if 0 < x then x else 0
theorem joinL_le (l : List Ln) : (joinL [] l).length ≤ l.length := by have := joinL_len l []; simpa using this
section
variable {c r : Int} (h1 : -10000000000 ≤ c) (h2 : c ≤ 10000000000) (h3 : 0 ≤ r) (h4 : r ≤ 10000)
include h1 h2 h3 h4
theorem corner_val {x : Int} (hx : 0 ≤ x) (hx2 : x ≤ 10000000000) : atL x 0 (coS c r).xs = mxw (x - c) * r ∧ 0 ≤ mxw (x - c) * r ∧ mxw (x - c) * r ≤ 200000000000000 := by
  have hm : 0 ≤ mxw (x - c) ∧ mxw (x - c) ≤ 20000000000 := by unfold mxw; split <;> omega
  have k1 : 0 ≤ mxw (x - c) * r := Int.mul_nonneg hm.1 h3
  have k2 : mxw (x - c) * r ≤ mxw (x - c) * 10000 := Int.mul_le_mul_of_nonneg_left h4 hm.1
  refine ⟨?_, k1, by omega⟩
  unfold coS
  rw [if_neg (by omega)]
  by_cases hr : r = 0
  · rw [if_pos hr, hr, Int.mul_zero]
    simp only [Sl.xs, atL]
    rw [if_pos hx, atF_eq]
    simp
    decide
  rw [if_neg hr]
  by_cases hc : c ≤ 0
  · rw [if_pos hc]
    have k3 : 0 ≤ -c * r := Int.mul_nonneg (by omega) h3
    have k4 : -c * r ≤ -c * 10000 := Int.mul_le_mul_of_nonneg_left h4 (by omega)
    have e : mxw (x - c) * r = -c * r + (x - 0) * r := by
      have : mxw (x - c) = -c + (x - 0) := by unfold mxw; split <;> omega
      rw [this, Int.add_mul]
    simp only [Sl.xs, atL]
    rw [if_pos hx, wrap_ok (x := -c) (by omega) (by omega), wrap_ok (x := -c * r) (by omega) (by omega), atF_eq]
    show IntKind.i64.wrap (-c * r + (x - 0) * r) = _
    rw [e] at k1 k2 ⊢
    exact wrap_ok (by omega) (by omega)
  · rw [if_neg hc]
    simp only [Sl.xs, atL]
    rw [if_pos hx]
    by_cases hcx : c ≤ x
    · have e : mxw (x - c) = x - c := by unfold mxw; split <;> omega
      rw [if_pos hcx, atF_eq, e]
      rw [e] at k1 k2
      show IntKind.i64.wrap (0 + (x - c) * r) = _
      rw [Int.zero_add]
      exact wrap_ok (by omega) (by omega)
    · have e : mxw (x - c) = 0 := by unfold mxw; split <;> omega
      rw [if_neg hcx, atF_eq, e, Int.zero_mul]
      simp
      decide
theorem corner_ok : ckF (coS c r).xs = 0 := by
  have hv := fun x h0 h1' => corner_val h1 h2 h3 h4 (x := x) h0 h1'
  refine ck_mk ?_ ?_ ?_ ?_ ?_ fun x h0 h1' => ?_
  case refine_6 =>
    have := hv x h0 h1'
    rw [this.1]
    exact bdF_iff.2 ⟨by omega, by omega⟩
  all_goals
    unfold coS
    rw [if_neg (by omega)]
    by_cases hr : r = 0
    · rw [if_pos hr]; simp [Sl.xs, bdF]
    rw [if_neg hr]
    by_cases hc : c ≤ 0
    · have k3 : 0 ≤ -c * r := Int.mul_nonneg (by omega) h3
      have k4 : -c * r ≤ -c * 10000 := Int.mul_le_mul_of_nonneg_left h4 (by omega)
      rw [if_pos hc, wrap_ok (x := -c) (by omega) (by omega), wrap_ok (x := -c * r) (by omega) (by omega)]
      generalize -c * r = m at *
      simp [Sl.xs, bdF] <;> omega
    · rw [if_neg hc]
      simp [Sl.xs, bdF] <;> omega
theorem corner_three : (lsO (coS c r).xs [⟨0, 5000, 0⟩]).length ≤ 3 := by
  unfold lsO
  have single : ∀ l : Ln, l.f = 0 → (lsL [l] [⟨0, 5000, 0⟩] (frF [l] [⟨0, 5000, 0⟩])).length ≤ 3 := fun l hl => by
    have e : frF [l] [⟨0, 5000, 0⟩] = [0] := by
      unfold frF
      simp only [List.cons_append, List.nil_append, List.map_cons, List.map_nil, hl]
      decide
    have := lsL_len [l] [⟨0, 5000, 0⟩] (frF [l] [⟨0, 5000, 0⟩])
    rw [e] at this ⊢
    simp at this
    omega
  unfold coS
  rw [if_neg (by omega)]
  by_cases hr : r = 0
  · rw [if_pos hr]; exact single _ rfl
  rw [if_neg hr]
  by_cases hc : c ≤ 0
  · rw [if_pos hc]; exact single _ rfl
  · rw [if_neg hc]
    simp only [Sl.xs]
    have e : frF [⟨0, 0, 0⟩, ⟨c, 0, r⟩] [⟨0, 5000, 0⟩] = [0, c] := by
      unfold frF
      simp only [List.cons_append, List.nil_append, List.map_cons, List.map_nil]
      have e1 : sortZ [0, c, 0] = [0, 0, c] := by simp [sortZ, insZ, hc]
      rw [e1]
      have : ¬ 0 = c := by omega
      simp [ddS, this]
    rw [e]
    have hlast := (lsS_ne (lnAt [⟨0, 0, 0⟩, ⟨c, 0, r⟩] c) (lnAt [⟨0, 5000, 0⟩] c) c (enD [])).2
    have hc2 : ¬ c ≤ 0 := hc
    have ea : lnAt [⟨0, 0, 0⟩, ⟨c, 0, r⟩] 0 = ⟨0, 0, 0⟩ := by simp [lnAt, fnd, cnt, hc2]
    have eb : lnAt [⟨0, 5000, 0⟩] 0 = ⟨0, 5000, 0⟩ := by simp [lnAt, fnd, cnt]
    have hfirst : (lsS (lnAt [⟨0, 0, 0⟩, ⟨c, 0, r⟩] 0) (lnAt [⟨0, 5000, 0⟩] 0) 0 (enD [c])).xs.length = 1 := by
      rw [ea, eb]
      have v1 : atF ⟨0, 0, 0⟩ 0 = 0 := by decide
      have v2 : atF ⟨0, 5000, 0⟩ 0 = 5000 := by decide
      unfold lsS
      rw [v1, v2, if_neg (by omega), if_neg (by omega)]
      unfold lsT
      have w : IntKind.i64.wrap ((⟨0, 0, 0⟩ : Ln).r - (⟨0, 5000, 0⟩ : Ln).r) = 0 := by decide
      rw [w, if_pos (by omega)]
      rfl
    simp only [lsL, List.length_append, hfirst, List.append_nil, List.length_nil]
    omega
end

set_option maxHeartbeats 1000000 in
theorem corner7 (c r x : Int) : callI Try.prog cfg 7 [.s (.int .i64 c), .s (.int .i64 r), .s (.int .i64 x)] [] = some ([.s (.bool true)], []) := by
  rw [callI_eq Try.func7 rfl rfl]
  by_cases g1 : 10000000000 < c
  · simp only [Try.f7, *, go_sem, ↓reduceIte, Nat.reduceAdd, Nat.reduceSub, Nat.reduceMul, Nat.reduceLeDiff, Nat.reduceLT, Nat.reduceEqDiff, Nat.reduceBEq, Int.reduceLT, Int.reduceLE, Int.reduceEq, Int.reduceAdd, Int.reduceNeg, Int.reduceToNat, reduceCtorEq]
  by_cases g2 : c < -10000000000
  · simp only [Try.f7, *, go_sem, ↓reduceIte, Nat.reduceAdd, Nat.reduceSub, Nat.reduceMul, Nat.reduceLeDiff, Nat.reduceLT, Nat.reduceEqDiff, Nat.reduceBEq, Int.reduceLT, Int.reduceLE, Int.reduceEq, Int.reduceAdd, Int.reduceNeg, Int.reduceToNat, reduceCtorEq]
  by_cases g3 : r < 0
  · simp only [Try.f7, *, go_sem, ↓reduceIte, Nat.reduceAdd, Nat.reduceSub, Nat.reduceMul, Nat.reduceLeDiff, Nat.reduceLT, Nat.reduceEqDiff, Nat.reduceBEq, Int.reduceLT, Int.reduceLE, Int.reduceEq, Int.reduceAdd, Int.reduceNeg, Int.reduceToNat, reduceCtorEq]
  by_cases g4 : 10000 < r
  · simp only [Try.f7, *, go_sem, ↓reduceIte, Nat.reduceAdd, Nat.reduceSub, Nat.reduceMul, Nat.reduceLeDiff, Nat.reduceLT, Nat.reduceEqDiff, Nat.reduceBEq, Int.reduceLT, Int.reduceLE, Int.reduceEq, Int.reduceAdd, Int.reduceNeg, Int.reduceToNat, reduceCtorEq]
  by_cases g5 : x < 0
  · simp only [Try.f7, *, go_sem, ↓reduceIte, Nat.reduceAdd, Nat.reduceSub, Nat.reduceMul, Nat.reduceLeDiff, Nat.reduceLT, Nat.reduceEqDiff, Nat.reduceBEq, Int.reduceLT, Int.reduceLE, Int.reduceEq, Int.reduceAdd, Int.reduceNeg, Int.reduceToNat, reduceCtorEq]
  by_cases g6 : 10000000000 < x
  · simp only [Try.f7, *, go_sem, ↓reduceIte, Nat.reduceAdd, Nat.reduceSub, Nat.reduceMul, Nat.reduceLeDiff, Nat.reduceLT, Nat.reduceEqDiff, Nat.reduceBEq, Int.reduceLT, Int.reduceLE, Int.reduceEq, Int.reduceAdd, Int.reduceNeg, Int.reduceToNat, reduceCtorEq]
  have hk := corner_ok (c := c) (r := r) (by omega) (by omega) (by omega) (by omega)
  have h3 := corner_three (c := c) (r := r) (by omega) (by omega) (by omega) (by omega)
  obtain ⟨v1, v2, v3⟩ := corner_val (c := c) (r := r) (by omega) (by omega) (by omega) (by omega) (x := x) (by omega) (by omega)
  have hcr := corner20 c r
  have hlen : (coS c r).xs.length < 9223372036854775808 := by have := (ckF_ok hk).most; omega
  have hlen2 : (coS c r).xs.length ≤ 60 := by
    unfold coS
    repeat' split
    all_goals simp [Sl.xs]
  have ha := at11 (coS c r) hlen x
  have e1 : atE x (coS c r).xs = 0 := by unfold atE; rw [if_pos hk, if_neg g5, if_neg g6]
  have e2 : atV x (coS c r).xs = mxw (x - c) * r := by unfold atV; rw [if_pos e1, v1]
  rw [e1, e2] at ha
  have hs0 : ckF [⟨0, 5000, 0⟩] = 0 := by decide
  obtain ⟨l1, l2, l3⟩ := ls_ok hk hs0 (by simp; omega)
  have hls := least16 (coS c r) (Sl.l (some 1) [⟨0, 5000, 0⟩]) hlen (by simp [Sl.xs])
  have ex : (Sl.l (some 1) [(⟨0, 5000, 0⟩ : Ln)]).xs = [⟨0, 5000, 0⟩] := rfl
  rw [ex, l1] at hls
  have hval := (great_all hk hs0 (by simp; omega)).2.2.2.2 x (by omega) (by omega)
  have hsv : atL x 0 [⟨0, 5000, 0⟩] = 5000 := by
    simp only [atL]
    rw [if_pos (show (0 : Int) ≤ x by omega), atF_eq]
    simp
    decide
  rw [hsv, v1] at hval
  have hl3 : (lsR (coS c r).xs [⟨0, 5000, 0⟩]).length ≤ 3 := by rw [l2]; exact Nat.le_trans (joinL_le _) h3
  have f1 : atE x (lsR (coS c r).xs [⟨0, 5000, 0⟩]) = 0 := by unfold atE; rw [if_pos l3, if_neg g5, if_neg g6]
  have f2 : atV x (lsR (coS c r).xs [⟨0, 5000, 0⟩]) = if 5000 < mxw (x - c) * r then 5000 else mxw (x - c) * r := by unfold atV; rw [if_pos f1]; exact hval.1
  generalize lsR (coS c r).xs [⟨0, 5000, 0⟩] = R at *
  have hw := at11 (accS R) (by rw [accS_xs]; omega) x
  have hRx : (accS R).xs = R := accS_xs _
  rw [hRx, f1, f2] at hw
  generalize accS R = rS at *
  have hrl : (rS.xs.length : Int) ≤ 3 := by rw [hRx]; omega
  have w1 : IntKind.i64.wrap (x - c) = x - c := wrap_ok (by omega) (by omega)
  have w2 : IntKind.i64.wrap (mxw (x - c) * r) = mxw (x - c) * r := wrap_ok (by omega) (by omega)
  have w3 : (if 0 < x - c then x - c else 0) = mxw (x - c) := rfl
  generalize mxw (x - c) = m at *
  generalize coS c r = cS at *
  clear hk h3 v1 v2 v3 hlen hlen2 e1 e2 hs0 l1 l2 l3 ex hval hsv hl3 f1 f2 hRx
  by_cases hm : 5000 < m * r
  · rw [if_pos hm] at hw
    simp only [Try.f7, *, go_sem, ↓reduceIte, Nat.reduceAdd, Nat.reduceSub, Nat.reduceMul, Nat.reduceLeDiff, Nat.reduceLT, Nat.reduceEqDiff, Nat.reduceBEq, Int.reduceLT, Int.reduceLE, Int.reduceEq, Int.reduceAdd, Int.reduceNeg, Int.reduceToNat, reduceCtorEq, decide_true, Bool.not_true]
  · rw [if_neg hm] at hw
    simp only [Try.f7, *, go_sem, ↓reduceIte, Nat.reduceAdd, Nat.reduceSub, Nat.reduceMul, Nat.reduceLeDiff, Nat.reduceLT, Nat.reduceEqDiff, Nat.reduceBEq, Int.reduceLT, Int.reduceLE, Int.reduceEq, Int.reduceAdd, Int.reduceNeg, Int.reduceToNat, reduceCtorEq, decide_true, Bool.not_true]

end Go.Proofs.Ytenldcieoalgoaa
end
