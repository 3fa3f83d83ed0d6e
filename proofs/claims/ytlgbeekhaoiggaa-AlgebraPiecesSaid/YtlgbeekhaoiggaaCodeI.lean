import Derived.Test.YtlgbeekhaoiggaaCodeH
set_option linter.all false
section
namespace Go.Proofs.Ytlgbeekhaoiggaa
open Go.AM Go.Sort
set_option maxHeartbeats 4000000
variable {f : Nat} {h : Heap}
theorem made {op : FuncId} {W : List Sp} {av : List Value} (r : Runs Xq ⟨f, []⟩ op av h (rowV h.size W.length) (pushR h 46 (elems spC W))) (hl : W.length ≤ 100000) :
    ∃ v1 h1, Runs Xq ⟨f, []⟩ op av h v1 h1 ∧ Low h.size h h1 ∧ SRow h1 v1 W :=
  ⟨_, _, r, low_pushR (Nat.le_refl _) _ _, row_pushR spC_len (by omega)⟩
theorem orW_len {xs ys : List Sp} (hx : ∀ x ∈ xs, okP x) (hy : ∀ x ∈ ys, okP x) : (orW xs ys).length ≤ 2 * (xs.length + ys.length) := by
  have := listW_len (xs ++ ys) (ok_app hx hy)
  rw [List.length_append] at this; exact this
theorem xorW_len {xs ys : List Sp} (hx : ∀ x ∈ xs, okP x) (hy : ∀ x ∈ ys, okP x) : (xorW xs ys).length ≤ 16 * (xs.length + ys.length) := by
  have h1 := minusW_len hx hy
  have h2 := minusW_len hy hx
  have h3 := orW_len (minusW_ok hx hy).1 (minusW_ok hy hx).1
  unfold xorW; omega
theorem meetW_len {xs ys : List Sp} (hx : ∀ x ∈ xs, okP x) (hy : ∀ x ∈ ys, okP x) : (meetW xs ys).length ≤ 4 * (xs.length + 4 * (xs.length + ys.length)) := by
  have h1 := minusW_len hx hy
  have h2 := minusW_len hx (minusW_ok hx hy).1
  unfold meetW; omega
theorem same_eq {v u : Value} {xs ys : List Sp} (hr : SRow h v xs) (hu : SRow h u ys) (e : xs = ys) (hl : xs.length ≤ 100000) : Runs Xq ⟨f, []⟩ 16 [v, u] h (.bool true) h := by
  subst e
  have := same_runs (f := f) hr hu hl hl
  simp only [decide_true] at this
  exact up this
theorem two_runs {va vb : Value} {xs ys : List Sp} (ml : xs.length ≤ 1000000000000000) (nl : ys.length ≤ 1000000000000000) (hr : SRow h va xs) (hu : SRow h vb ys) (hx : ∀ x ∈ xs, okP x) (hy : ∀ x ∈ ys, okP x) : Runs Xq ⟨f, []⟩ 7 [va, vb] h (.bool true) h := by
  refine runs_R rfl f7_is ?_
  have hR := hr.R spC_len
  have hU := hu.R spC_len
  have hlt := hr.lt
  have hlu := hu.lt
  by_cases hc : 40 < xs.length + ys.length
  · simp (disch := first | omega | decide | with_unfolding_all rfl) [hR, hU, hc, RF_of alive_runs]
  have b1 := orW_len hx hy
  have b2 := meetW_len hx hy
  have b3 := minusW_len hx hy
  have b4 := xorW_len hx hy
  have hc' : ¬ (40 : Int) < xs.length + ys.length := by omega
  simp (disch := first | omega | decide | with_unfolding_all rfl) [hR, hU, hc']
  obtain ⟨v1, h1, r1, l1, q1⟩ := made (algOr_runs (f := h.size) hr hu (by omega) hx hy) (by omega)
  have hr1 := hr.low l1 (Nat.le_refl _)
  have hu1 := hu.low l1 (Nat.le_refl _)
  obtain ⟨v2, h2, r2, l2, q2⟩ := made (or11_runs (f := h.size) hr1 hu1 (by omega) hx hy) (by omega)
  have e2 := same_eq (f := h.size) (q1.low l2 (Nat.le_refl _)) q2 rfl (by omega)
  have hr2 := hr1.low l2 (Nat.le_refl _)
  have hu2 := hu1.low l2 (Nat.le_refl _)
  obtain ⟨v3, h3, r3, l3, q3⟩ := made (algAnd_runs (f := h.size) hr2 hu2 (by omega) hx hy) (by omega)
  have hr3 := hr2.low l3 (Nat.le_refl _)
  have hu3 := hu2.low l3 (Nat.le_refl _)
  obtain ⟨v4, h4, r4, l4, q4⟩ := made (and11_runs (f := h.size) hr3 hu3 (by omega) hx hy) (by omega)
  have e4 := same_eq (f := h.size) (q3.low l4 (Nat.le_refl _)) q4 rfl (by omega)
  have hr4 := hr3.low l4 (Nat.le_refl _)
  have hu4 := hu3.low l4 (Nat.le_refl _)
  obtain ⟨v5, h5, r5, l5, q5⟩ := made (algMinus_runs (f := h.size) hr4 hu4 (by omega) hx hy) (by omega)
  have hr5 := hr4.low l5 (Nat.le_refl _)
  have hu5 := hu4.low l5 (Nat.le_refl _)
  obtain ⟨v6, h6, r6, l6, q6⟩ := made (minus11_runs (f := h.size) hr5 hu5 (by omega) hx hy) (by omega)
  have e6 := same_eq (f := h.size) (q5.low l6 (Nat.le_refl _)) q6 rfl (by omega)
  have hr6 := hr5.low l6 (Nat.le_refl _)
  have hu6 := hu5.low l6 (Nat.le_refl _)
  obtain ⟨v7, h7, r7, l7, q7⟩ := made (algXor_runs (f := h.size) hr6 hu6 (by omega) hx hy) (by omega)
  have hr7 := hr6.low l7 (Nat.le_refl _)
  have hu7 := hu6.low l7 (Nat.le_refl _)
  obtain ⟨v8, h8, r8, l8, q8⟩ := made (xor11_runs (f := h.size) hr7 hu7 (by omega) hx hy) (by omega)
  have e8 := same_eq (f := h.size) (q7.low l8 (Nat.le_refl _)) q8 rfl (by omega)
  have hr8 := hr7.low l8 (Nat.le_refl _)
  have hu8 := hu7.low l8 (Nat.le_refl _)
  have e9 := algWithin_runs (f := h.size) hr8 hu8 (by omega) hx hy
  obtain ⟨va, ha, ra, la, qa⟩ := made (minus11_runs (f := h.size) hr8 hu8 (by omega) hx hy) (by omega)
  have hra := hr8.low la (Nat.le_refl _)
  have hua := hu8.low la (Nat.le_refl _)
  have eb := algEqual_runs (f := h.size) hra hua (by omega) hx hy
  obtain ⟨vc, hc, rc, lc, qc⟩ := made (xor11_runs (f := h.size) hra hua (by omega) hx hy) (by omega)
  have Qa := (qa.R spC_len).1
  have Qc := (qc.R spC_len).1
  clear b2 b3 b4
  clear q1 q2 q3 q4 q5 q6 q7 q8 qa qc
  generalize (minusW xs ys).length = m at *
  generalize (xorW xs ys).length = k at *
  by_cases hm : m = 0 <;> by_cases hk : k = 0 <;> simp [hm] at e9 Qa <;> simp [hk] at eb Qc <;>
  simp (disch := first | omega | decide | with_unfolding_all rfl) [RF_of alive_runs, RF_of r1, RF_of r2, RF_of e2, RF_of r3, RF_of r4, RF_of e4, RF_of r5, RF_of r6, RF_of e6, RF_of r7, RF_of r8, RF_of e8, RF_of e9, RF_of ra, RF_of eb, RF_of rc, Qa, Qc]
theorem numbers_runs {va vb : Value} {xs ys : List Sp} {n : Int} (ml : xs.length ≤ 1000000000000000) (nl : ys.length ≤ 1000000000000000) (hr : SRow h va xs) (hu : SRow h vb ys) (hx : ∀ x ∈ xs, okP x) (hy : ∀ x ∈ ys, okP x) (hn : okN n) : Runs Xq ⟨f, []⟩ 10 [va, vb, .int .i64 n] h (.bool true) h := by
  refine runs_R rfl f10_is ?_
  have hR := hr.R spC_len
  have hU := hu.R spC_len
  have hlt := hr.lt
  have hlu := hu.lt
  by_cases hc : 40 < xs.length + ys.length
  · simp (disch := first | omega | decide | with_unfolding_all rfl) [hR, hU, hc, RF_of alive_runs]
  have b1 := orW_len hx hy
  have b2 := meetW_len hx hy
  have b3 := minusW_len hx hy
  have b4 := xorW_len hx hy
  have hc' : ¬ (40 : Int) < xs.length + ys.length := by omega
  simp (disch := first | omega | decide | with_unfolding_all rfl) [hR, hU, hc']
  have ea := up (anyN_runs (f := h.size) hr (by omega) hx hn)
  have eb := up (anyN_runs (f := h.size) hu (by omega) hy hn)
  obtain ⟨v1, h1, r1, l1, q1⟩ := made (algOr_runs (f := h.size) hr hu (by omega) hx hy) (by omega)
  have hr1 := hr.low l1 (Nat.le_refl _)
  have hu1 := hu.low l1 (Nat.le_refl _)
  obtain ⟨o1, _, o3⟩ := inL_or hx hy
  have e1 := up (anyN_runs (f := h.size) q1 (by omega) o1 hn)
  obtain ⟨v3, h3, r3, l3, q3⟩ := made (algAnd_runs (f := h.size) hr1 hu1 (by omega) hx hy) (by omega)
  have hr3 := hr1.low l3 (Nat.le_refl _)
  have hu3 := hu1.low l3 (Nat.le_refl _)
  obtain ⟨p1, _, p3⟩ := meetW_ok hx hy
  have e3 := up (anyN_runs (f := h.size) q3 (by omega) p1 hn)
  obtain ⟨v5, h5, r5, l5, q5⟩ := made (algMinus_runs (f := h.size) hr3 hu3 (by omega) hx hy) (by omega)
  have hr5 := hr3.low l5 (Nat.le_refl _)
  have hu5 := hu3.low l5 (Nat.le_refl _)
  obtain ⟨m1, _, m3⟩ := minusW_ok hx hy
  have e5 := up (anyN_runs (f := h.size) q5 (by omega) m1 hn)
  obtain ⟨v7, h7, r7, l7, q7⟩ := made (algXor_runs (f := h.size) hr5 hu5 (by omega) hx hy) (by omega)
  obtain ⟨x1, _, x3⟩ := xorW_ok hx hy
  have e7 := up (anyN_runs (f := h.size) q7 (by omega) x1 hn)
  have k1 : hasL (orW xs ys) n = (hasL xs n || hasL ys n) := by rw [Bool.eq_iff_iff, Bool.or_eq_true, hasL_iff, hasL_iff, hasL_iff]; exact o3 n
  have k3 : hasL (meetW xs ys) n = (hasL xs n && hasL ys n) := by rw [Bool.eq_iff_iff, Bool.and_eq_true, hasL_iff, hasL_iff, hasL_iff]; exact p3 n
  have k5 : hasL (minusW xs ys) n = (hasL xs n && !hasL ys n) := by rw [Bool.eq_iff_iff, Bool.and_eq_true, Bool.not_eq_true', hasL_f, hasL_iff, hasL_iff]; exact m3 n
  have k7 : hasL (xorW xs ys) n = (hasL xs n != hasL ys n) := by
    have := x3 n
    rw [← hasL_iff, ← hasL_iff, ← hasL_iff] at this
    revert this; cases hasL (xorW xs ys) n <;> cases hasL xs n <;> cases hasL ys n <;> simp
  rw [k1] at e1; rw [k3] at e3; rw [k5] at e5; rw [k7] at e7
  generalize hasL xs n = p at *
  generalize hasL ys n = q at *
  cases p <;> cases q <;> simp at e1 e3 e5 e7 <;>
  simp (disch := first | omega | decide | with_unfolding_all rfl) [RF_of alive_runs, RF_of ea, RF_of eb, RF_of r1, RF_of e1, RF_of r3, RF_of e3, RF_of r5, RF_of e5, RF_of r7, RF_of e7]
end Go.Proofs.Ytlgbeekhaoiggaa
end

section
namespace Go.Proofs.Ytlgbeekhaoiggaa
open Go.AM Go.Sort
set_option maxHeartbeats 4000000
variable {f : Nat} {h : Heap} {xs ys zs : List Sp}
theorem meetW_len2 (hx : ∀ x ∈ xs, okP x) (hy : ∀ x ∈ ys, okP x) : (meetW xs ys).length ≤ 4 * (xs.length + ys.length) := by
  have h1 := suchW_len (pf := fun p q => p && q) hx hy
  have h2 := listW_len _ (pieces2 (p := fun p q => p && q) hx hy rfl).1
  rw [← and_eq hx hy]
  have h3 : (listW (suchW (fun p q => p && q) xs ys)).length ≤ 2 * (suchW (fun p q => p && q) xs ys).length := h2
  omega
theorem or_comm (hx : ∀ x ∈ xs, okP x) (hy : ∀ x ∈ ys, okP x) : orW xs ys = orW ys xs := by
  obtain ⟨a, b, c⟩ := inL_or hx hy
  obtain ⟨a', b', c'⟩ := inL_or hy hx
  exact canL_eq a a' b b' fun n => by rw [c, c']; exact Or.comm
theorem meet_comm (hx : ∀ x ∈ xs, okP x) (hy : ∀ x ∈ ys, okP x) : meetW xs ys = meetW ys xs := by
  obtain ⟨a, b, c⟩ := meetW_ok hx hy
  obtain ⟨a', b', c'⟩ := meetW_ok hy hx
  exact canL_eq a a' b b' fun n => by rw [c, c']; exact And.comm
theorem xor_comm (hx : ∀ x ∈ xs, okP x) (hy : ∀ x ∈ ys, okP x) : xorW xs ys = xorW ys xs := by
  obtain ⟨a, b, c⟩ := xorW_ok hx hy
  obtain ⟨a', b', c'⟩ := xorW_ok hy hx
  exact canL_eq a a' b b' fun n => by rw [c, c']; constructor <;> intro h <;> grind
theorem apart (hx : ∀ x ∈ xs, okP x) (hy : ∀ x ∈ ys, okP x) : meetW (minusW xs ys) (meetW xs ys) = [] := by
  obtain ⟨a, b, c⟩ := minusW_ok hx hy
  obtain ⟨a', b', c'⟩ := meetW_ok hx hy
  obtain ⟨a2, b2, c2⟩ := meetW_ok a a'
  exact canL_eq a2 (by simp) b2 trivial fun n => by rw [c2, c, c']; simp [inL]; grind
theorem whole (hx : ∀ x ∈ xs, okP x) (hy : ∀ x ∈ ys, okP x) : orW (minusW xs ys) (meetW xs ys) = listW xs := by
  obtain ⟨a, b, c⟩ := minusW_ok hx hy
  obtain ⟨a', b', c'⟩ := meetW_ok hx hy
  obtain ⟨a2, b2, c2⟩ := inL_or a a'
  obtain ⟨a3, b3, c3⟩ := listW_ok hx
  exact canL_eq a2 a3 b2 b3 fun n => by rw [c2, c, c', c3]; grind
theorem xor_list (hx : ∀ x ∈ xs, okP x) : xorW (listW xs) xs = [] := by
  obtain ⟨a, b, c⟩ := listW_ok hx
  obtain ⟨a2, b2, c2⟩ := xorW_ok a hx
  exact canL_eq a2 (by simp) b2 trivial fun n => by rw [c2, c]; simp [inL]
theorem spread (hx : ∀ x ∈ xs, okP x) (hy : ∀ x ∈ ys, okP x) (hz : ∀ x ∈ zs, okP x) : meetW xs (orW ys zs) = orW (meetW xs ys) (meetW xs zs) := by
  obtain ⟨a, b, c⟩ := inL_or hy hz
  obtain ⟨a2, b2, c2⟩ := meetW_ok hx a
  obtain ⟨a3, b3, c3⟩ := meetW_ok hx hy
  obtain ⟨a4, b4, c4⟩ := meetW_ok hx hz
  obtain ⟨a5, b5, c5⟩ := inL_or a3 a4
  exact canL_eq a2 a5 b2 b5 fun n => by rw [c2, c, c5, c3, c4]; grind
theorem without (hx : ∀ x ∈ xs, okP x) (hy : ∀ x ∈ ys, okP x) (hz : ∀ x ∈ zs, okP x) : minusW xs (orW ys zs) = minusW (minusW xs ys) zs := by
  obtain ⟨a, b, c⟩ := inL_or hy hz
  obtain ⟨a2, b2, c2⟩ := minusW_ok hx a
  obtain ⟨a3, b3, c3⟩ := minusW_ok hx hy
  obtain ⟨a4, b4, c4⟩ := minusW_ok a3 hz
  exact canL_eq a2 a4 b2 b4 fun n => by rw [c2, c, c4, c3]; grind
theorem laws_runs {va vb vc : Value} (ml : xs.length ≤ 1000000000000000) (nl : ys.length ≤ 1000000000000000) (kl : zs.length ≤ 1000000000000000) (hr : SRow h va xs) (hu : SRow h vb ys) (hv : SRow h vc zs) (hx : ∀ x ∈ xs, okP x) (hy : ∀ x ∈ ys, okP x) (hz : ∀ x ∈ zs, okP x) : Runs Xq ⟨f, []⟩ 9 [va, vb, vc] h (.bool true) h := by
  refine runs_R rfl f9_is ?_
  have hR := hr.R spC_len
  have hU := hu.R spC_len
  have hV := hv.R spC_len
  have hlt := hr.lt
  have hlu := hu.lt
  have hlv := hv.lt
  by_cases hc : 40 < xs.length + ys.length + zs.length
  · have hc' : (40 : Int) < xs.length + ys.length + zs.length := by omega
    simp (disch := first | omega | decide | with_unfolding_all rfl) [hR, hU, hV, hc', RF_of alive_runs]
  have hc' : ¬ (40 : Int) < xs.length + ys.length + zs.length := by omega
  simp (disch := first | omega | decide | with_unfolding_all rfl) [hR, hU, hV, hc']
  have cx := orW_len hx hy
  have cy := orW_len hy hx
  have c1 := meetW_len2 hx hy
  have c2 := meetW_len2 hy hx
  have c3 := xorW_len hx hy
  have c4 := xorW_len hy hx
  have c5 := minusW_len hx hy
  have c6 := orW_len hy hz
  have c7 := meetW_len2 hx hz
  have ok1 := (minusW_ok hx hy).1
  have ok2 := (meetW_ok hx hy).1
  have ok3 := (inL_or hy hz).1
  have ok4 := (meetW_ok hx hz).1
  have ok5 := (listW_ok hx).1
  have c8 := meetW_len2 ok1 ok2
  have c9 := listW_len xs hx
  have ca := meetW_len2 hx ok3
  have cb := orW_len ok2 ok4
  have cc := minusW_len hx ok3
  have cd := minusW_len ok1 hz
  have ce := orW_len ok1 ok2
  obtain ⟨v1, h1, r1, l1, q1⟩ := made (algOr_runs (f := h.size) hr hu (by omega) hx hy) (by omega)
  replace hr := hr.low l1 (Nat.le_refl _)
  replace hu := hu.low l1 (Nat.le_refl _)
  replace hv := hv.low l1 (Nat.le_refl _)
  obtain ⟨v2, h2, r2, l2, q2⟩ := made (algOr_runs (f := h.size) hu hr (by omega) hy hx) (by omega)
  have e2 := same_eq (f := h.size) (q1.low l2 (Nat.le_refl _)) q2 (or_comm hx hy) (by omega)
  replace hr := hr.low l2 (Nat.le_refl _)
  replace hu := hu.low l2 (Nat.le_refl _)
  replace hv := hv.low l2 (Nat.le_refl _)
  obtain ⟨v3, h3, r3, l3, q3⟩ := made (algAnd_runs (f := h.size) hr hu (by omega) hx hy) (by omega)
  replace hr := hr.low l3 (Nat.le_refl _)
  replace hu := hu.low l3 (Nat.le_refl _)
  replace hv := hv.low l3 (Nat.le_refl _)
  obtain ⟨v4, h4, r4, l4, q4⟩ := made (algAnd_runs (f := h.size) hu hr (by omega) hy hx) (by omega)
  have e4 := same_eq (f := h.size) (q3.low l4 (Nat.le_refl _)) q4 (meet_comm hx hy) (by omega)
  replace hr := hr.low l4 (Nat.le_refl _)
  replace hu := hu.low l4 (Nat.le_refl _)
  replace hv := hv.low l4 (Nat.le_refl _)
  obtain ⟨v5, h5, r5, l5, q5⟩ := made (algXor_runs (f := h.size) hr hu (by omega) hx hy) (by omega)
  replace hr := hr.low l5 (Nat.le_refl _)
  replace hu := hu.low l5 (Nat.le_refl _)
  replace hv := hv.low l5 (Nat.le_refl _)
  obtain ⟨v6, h6, r6, l6, q6⟩ := made (algXor_runs (f := h.size) hu hr (by omega) hy hx) (by omega)
  have e6 := same_eq (f := h.size) (q5.low l6 (Nat.le_refl _)) q6 (xor_comm hx hy) (by omega)
  replace hr := hr.low l6 (Nat.le_refl _)
  replace hu := hu.low l6 (Nat.le_refl _)
  replace hv := hv.low l6 (Nat.le_refl _)
  obtain ⟨v7, h7, r7, l7, q7⟩ := made (algMinus_runs (f := h.size) hr hu (by omega) hx hy) (by omega)
  replace hr := hr.low l7 (Nat.le_refl _)
  replace hu := hu.low l7 (Nat.le_refl _)
  replace hv := hv.low l7 (Nat.le_refl _)
  obtain ⟨v8, h8, r8, l8, q8⟩ := made (algAnd_runs (f := h.size) hr hu (by omega) hx hy) (by omega)
  replace hr := hr.low l8 (Nat.le_refl _)
  replace hu := hu.low l8 (Nat.le_refl _)
  replace hv := hv.low l8 (Nat.le_refl _)
  replace q7 := q7.low l8 (Nat.le_refl _)
  obtain ⟨v9, h9, r9, l9, q9⟩ := made (algAnd_runs (f := h.size) q7 q8 (by omega) ok1 ok2) (by omega)
  have n9 := (q9.R spC_len).1
  rw [apart hx hy] at n9
  replace hr := hr.low l9 (Nat.le_refl _)
  replace hu := hu.low l9 (Nat.le_refl _)
  replace hv := hv.low l9 (Nat.le_refl _)
  replace q7 := q7.low l9 (Nat.le_refl _)
  replace q8 := q8.low l9 (Nat.le_refl _)
  obtain ⟨va, ha, ra, la, qa⟩ := made (algOr_runs (f := h.size) q7 q8 (by omega) ok1 ok2) (by omega)
  rw [whole hx hy] at qa
  replace hr := hr.low la (Nat.le_refl _)
  replace hu := hu.low la (Nat.le_refl _)
  replace hv := hv.low la (Nat.le_refl _)
  have eb := algEqual_runs (f := h.size) qa hr (by omega) ok5 hx
  rw [xor_list hx] at eb
  obtain ⟨vd, hd, rd, ld, qd⟩ := made (algOr_runs (f := h.size) hu hv (by omega) hy hz) (by omega)
  replace hr := hr.low ld (Nat.le_refl _)
  replace hu := hu.low ld (Nat.le_refl _)
  replace hv := hv.low ld (Nat.le_refl _)
  obtain ⟨ve, he, re, le, qe⟩ := made (algAnd_runs (f := h.size) hr qd (by omega) hx ok3) (by omega)
  replace hr := hr.low le (Nat.le_refl _)
  replace hu := hu.low le (Nat.le_refl _)
  replace hv := hv.low le (Nat.le_refl _)
  obtain ⟨vf, hf, rf, lf, qf⟩ := made (algAnd_runs (f := h.size) hr hu (by omega) hx hy) (by omega)
  replace hr := hr.low lf (Nat.le_refl _)
  replace hu := hu.low lf (Nat.le_refl _)
  replace hv := hv.low lf (Nat.le_refl _)
  obtain ⟨vg, hg, rg, lg, qg⟩ := made (algAnd_runs (f := h.size) hr hv (by omega) hx hz) (by omega)
  replace hr := hr.low lg (Nat.le_refl _)
  replace hu := hu.low lg (Nat.le_refl _)
  replace hv := hv.low lg (Nat.le_refl _)
  obtain ⟨vi, hi, ri, li, qi⟩ := made (algOr_runs (f := h.size) (qf.low lg (Nat.le_refl _)) qg (by omega) ok2 ok4) (by omega)
  replace hr := hr.low li (Nat.le_refl _)
  replace hu := hu.low li (Nat.le_refl _)
  replace hv := hv.low li (Nat.le_refl _)
  have ei := same_eq (f := h.size) (((qe.low lf (Nat.le_refl _)).low lg (Nat.le_refl _)).low li (Nat.le_refl _)) qi (spread hx hy hz) (by omega)
  obtain ⟨vj, hj, rj, lj, qj⟩ := made (algOr_runs (f := h.size) hu hv (by omega) hy hz) (by omega)
  replace hr := hr.low lj (Nat.le_refl _)
  replace hu := hu.low lj (Nat.le_refl _)
  replace hv := hv.low lj (Nat.le_refl _)
  obtain ⟨vk, hk, rk, lk, qk⟩ := made (algMinus_runs (f := h.size) hr qj (by omega) hx ok3) (by omega)
  replace hr := hr.low lk (Nat.le_refl _)
  replace hu := hu.low lk (Nat.le_refl _)
  replace hv := hv.low lk (Nat.le_refl _)
  obtain ⟨vl, hl, rl, ll, ql⟩ := made (algMinus_runs (f := h.size) hr hu (by omega) hx hy) (by omega)
  replace hv := hv.low ll (Nat.le_refl _)
  obtain ⟨vm, hm, rm, lm, qm⟩ := made (algMinus_runs (f := h.size) ql hv (by omega) ok1 hz) (by omega)
  have em := same_eq (f := h.size) ((qk.low ll (Nat.le_refl _)).low lm (Nat.le_refl _)) qm (without hx hy hz) (by omega)
  simp at n9 eb
  simp (disch := first | omega | decide | with_unfolding_all rfl) [RF_of alive_runs, RF_of r1, RF_of r2, RF_of e2, RF_of r3, RF_of r4, RF_of e4, RF_of r5, RF_of r6, RF_of e6, RF_of r7, RF_of r8, RF_of r9, n9, RF_of ra, RF_of eb, RF_of rd, RF_of re, RF_of rf, RF_of rg, RF_of ri, RF_of ei, RF_of rj, RF_of rk, RF_of rl, RF_of rm, RF_of em]
end Go.Proofs.Ytlgbeekhaoiggaa
end

section
namespace Go.Proofs.Ytlgbeekhaoiggaa
open Go.AM Go.Sort
set_option maxHeartbeats 4000000
variable {f : Nat} {h : Heap} {xs ys zs : List Sp}
theorem twice (hx : ∀ x ∈ xs, okP x) (hw : ∀ x ∈ ys, okP x) : minusW ys (minusW ys xs) = meetW xs ys := by
  obtain ⟨a, b, c⟩ := minusW_ok hw hx
  obtain ⟨a2, b2, c2⟩ := minusW_ok hw a
  obtain ⟨a3, b3, c3⟩ := meetW_ok hx hw
  exact canL_eq a2 a3 b2 b3 fun n => by rw [c2, c, c3]; grind
theorem at_c {b : Nat} {w : Sp} (c : h[b]? = some (.cells (spC w) 46)) : h.cellsAt b = some (spC w) := by
  simp [Heap.cellsAt, c]
theorem grab4 {w : Sp} : grab (spC w) 0 4 = some [.int .i64 w.a, .int .i64 w.b, .int .i64 w.c, .int .i64 w.d] := by simp [grab, spC]
theorem one_runs {w : Sp} : Runs Xq ⟨f, []⟩ 45 [spA w] h (rowV h.size 1) (pushR h 46 (elems spC [w])) := by
  refine runs_R rfl f45_is ?_
  have o : Own h.size ((h.push (.cells (spC w) 46)).push (.cells (spC w) 46)) 46 4 (.slice (some ⟨h.size + 1, 0, none⟩) 1 1) (elems spC [w]) :=
    ⟨.inr ⟨by simp [spC], h.size + 1, 1, rfl, by simp [spC], by rw [push_at (by simp)]; simp, by omega⟩, by simp [spC, Go.AM.one]⟩
  simp (disch := first | omega | decide | with_unfolding_all rfl)
  have q := RQ_own (h0 := h) (R := fun w_1 h1 => w_1 = rowV h.size 1 ∧ h1 = pushR h 46 (spC w ++ [])) (p := ⟨⟩) (xs := [w]) o spC_len (by omega) (all_below_ints (elems_ints spC_ints _)) ⟨rfl, rfl⟩
  simp [low2, low1] at q ⊢
  exact q
theorem not_runs {va : Value} {w : Sp} (hr : SRow h va xs) (hx : ∀ x ∈ xs, okP x) (hw : okP w) : Runs Xq ⟨f, []⟩ 11 [va, spA w] h (.bool true) h := by
  refine runs_R rfl f11_is ?_
  have hR := hr.R spC_len
  have hlt := hr.lt
  by_cases hc : 40 < xs.length
  · simp (disch := first | omega | decide | with_unfolding_all rfl) [hR, hc, RF_of alive_runs]
  simp (disch := first | omega | decide | with_unfolding_all rfl) [hR, hc]
  have hw1 : ∀ x ∈ [w], okP x := by simpa using hw
  have ok1 := (minusW_ok hw1 hx).1
  have n1 := minusW_len hw1 hx
  have n2 := minusW_len hw1 ok1
  have n3 := meetW_len2 hx hw1
  rw [List.length_singleton] at n1 n2 n3
  have lb : Low h.size h (h.push (.cells (spC w) 46)) := Low.push (Nat.le_refl _) _
  have cb : (h.push (.cells (spC w) 46))[h.size]? = some (.cells (spC w) 46) := push_at rfl
  have hr0 : SRow (h.push (.cells (spC w) 46)) va xs := hr.low lb (Nat.le_refl _)
  have s0 := lb.1
  change RF _ _ _ _ _ _ _ (Array.push h (.cells (spC w) 46)) _ _
  generalize h.push (.cells (spC w) 46) = h0 at *
  obtain ⟨v1, h1, r1, l1, q1⟩ := made (algNot_runs (f := h.size) hr0 (by omega) hx hw) (by omega)
  have c1 : h1[h.size]? = some (.cells (spC w) 46) := by rw [l1.2 _ (Array.getElem?_eq_some_iff.1 cb).1]; exact cb
  have hr1 := hr0.low l1 (Nat.le_refl _)
  obtain ⟨v2, h2, r2, l2, q2⟩ := made (W := [w]) (one_runs (f := h.size) (h := h1) (w := w)) (by simp)
  have c2 : h2[h.size]? = some (.cells (spC w) 46) := by rw [l2.2 _ (Array.getElem?_eq_some_iff.1 c1).1]; exact c1
  have hr2 := hr1.low l2 (Nat.le_refl _)
  obtain ⟨v3, h3, r3, l3, q3⟩ := made (minus11_runs (f := h.size) q2 hr2 (by simp; omega) hw1 hx) (by omega)
  have e3 := same_eq (f := h.size) ((q1.low l2 (Nat.le_refl _)).low l3 (Nat.le_refl _)) q3 rfl (by omega)
  have c3 : h3[h.size]? = some (.cells (spC w) 46) := by rw [l3.2 _ (Array.getElem?_eq_some_iff.1 c2).1]; exact c2
  have hr3 := hr2.low l3 (Nat.le_refl _)
  obtain ⟨v4, h4, r4, l4, q4⟩ := made (algNot_runs (f := h.size) ((q1.low l2 (Nat.le_refl _)).low l3 (Nat.le_refl _)) (by omega) ok1 hw) (by omega)
  have c4 : h4[h.size]? = some (.cells (spC w) 46) := by rw [l4.2 _ (Array.getElem?_eq_some_iff.1 c3).1]; exact c3
  have hr4 := hr3.low l4 (Nat.le_refl _)
  obtain ⟨v5, h5, r5, l5, q5⟩ := made (W := [w]) (one_runs (f := h.size) (h := h4) (w := w)) (by simp)
  have c5 : h5[h.size]? = some (.cells (spC w) 46) := by rw [l5.2 _ (Array.getElem?_eq_some_iff.1 c4).1]; exact c4
  have hr5 := hr4.low l5 (Nat.le_refl _)
  obtain ⟨v6, h6, r6, l6, q6⟩ := made (and11_runs (f := h.size) hr5 q5 (by simp; omega) hx hw1) (by omega)
  have e6 := same_eq (f := h.size) ((q4.low l5 (Nat.le_refl _)).low l6 (Nat.le_refl _)) q6 (twice hx hw1) (by omega)
  have c6 : h6[h.size]? = some (.cells (spC w) 46) := by rw [l6.2 _ (Array.getElem?_eq_some_iff.1 c5).1]; exact c5
  simp (disch := first | omega | decide | with_unfolding_all rfl) [RF_of alive_runs, RF_of r1, RF_of r2, RF_of r3, RF_of e3, RF_of r4, RF_of r5, RF_of r6, RF_of e6, at_c c1, at_c c2, at_c c3, at_c c4, at_c c5, at_c c6, grab4]
end Go.Proofs.Ytlgbeekhaoiggaa
end

section
namespace Go.Proofs.Ytlgbeekhaoiggaa
open Go.AM Go.Sort
set_option maxHeartbeats 4000000
variable {f : Nat} {h : Heap} {xs ys zs : List Sp}
theorem pieces_tight (p : Int → Bool) : ∀ {cs : List (Int × Int)}, Rise cs → ∀ s ∈ pieces p cs, ∀ x ∈ cs, ¬ (lowK s < keyC x ∧ keyC x < highK s)
  | [], _ => by simp [pieces]
  | [c], _ => by simp [pieces]
  | c :: d :: r, h => by
    intro s hs x hx
    have hcd := h.head d (by simp)
    rw [pieces, List.mem_append] at hs
    rcases hs with hs | hs
    · have : s = ⟨c.1, c.2, d.1, d.2⟩ := by split at hs <;> simp at hs; exact hs
      subst this
      show ¬ (keyC c < _ ∧ _ < keyC d)
      rcases List.mem_cons.1 hx with rfl | hx
      · omega
      · rcases List.mem_cons.1 hx with rfl | hx
        · omega
        · have := h.tail.head x hx; omega
    · rcases List.mem_cons.1 hx with rfl | hx
      · have := (pieces_ok p h.tail).2.2 s hs d rfl; omega
      · exact pieces_tight p h.tail s hs x hx
theorem pieces_list (hx : ∀ x ∈ xs, okP x) (hy : ∀ x ∈ ys, okP x) : (∀ x ∈ refineW xs ys, okP x) ∧ listW (refineW xs ys) = listW xs := by
  obtain ⟨q1, q2⟩ := pieces2 (p := fun a _ => a) hx hy rfl
  refine ⟨q1, ?_⟩
  obtain ⟨a, b, c⟩ := listW_ok q1
  obtain ⟨a2, b2, c2⟩ := listW_ok hx
  exact canL_eq a a2 b b2 fun n => by rw [c2]; exact (c n).trans ((q2 n).trans hasL_iff)
theorem same2_eq {v u : Value} {xs ys : List (Int × Int)} (hr : CRow h v xs) (hu : CRow h u ys) (e : xs = ys) (hl : xs.length ≤ 100000) : Runs Xq ⟨f, []⟩ 40 [v, u] h (.bool true) h := by
  subst e
  have := same2_runs (f := f) hr hu hl
  simp only [decide_true] at this
  exact this
theorem pieces_runs {va vb : Value} (ml : xs.length ≤ 1000000000000000) (nl : ys.length ≤ 1000000000000000) (hr : SRow h va xs) (hu : SRow h vb ys) (hx : ∀ x ∈ xs, okP x) (hy : ∀ x ∈ ys, okP x) : Runs Xq ⟨f, []⟩ 8 [va, vb] h (.bool true) h := by
  refine runs_R rfl f8_is ?_
  have hR := hr.R spC_len
  have hU := hu.R spC_len
  have hlt := hr.lt
  have hlu := hu.lt
  by_cases hc : 40 < xs.length + ys.length
  · simp (disch := first | omega | decide | with_unfolding_all rfl) [hR, hU, hc, RF_of alive_runs]
  have hc' : ¬ (40 : Int) < xs.length + ys.length := by omega
  have b1 : (refineW xs ys).length ≤ 2 * (xs.length + ys.length) := suchW_len (pf := fun p _ => p) hx hy
  have hxy := ok_app hx hy
  obtain ⟨hcs, hcm, hcn⟩ := riseL_ok (cutsOf_ok hxy)
  have hcl := cutsOf_len (xs ++ ys)
  rw [List.length_append] at hcl
  obtain ⟨okr, elist⟩ := pieces_list hx hy
  have b2 := listW_len xs hx
  have b3 := (riseL_ok (cutsOf_ok hx)).2.2
  have b4 := cutsOf_len xs
  have tight : ∀ s ∈ refineW xs ys, ∀ x ∈ riseL (cutsOf (xs ++ ys)), (lessC (s.a, s.b) x && lessC x (s.c, s.d)) = false := by
    intro s hs x hx'
    have h1 := pieces_tight _ hcs s hs x hx'
    have h2 := okr s hs
    have h3 := (hcs.ok x hx').1
    rw [lessC_key h2.1 h3, lessC_key h3 h2.2]
    simp only [lowK, highK] at h1
    simp only [Bool.and_eq_false_iff, decide_eq_false_iff_not]
    omega
  obtain ⟨v1, h1, r1, l1, q1⟩ := made (algRefine_runs (f := h.size) hr hu (by omega) hx hy) (by omega)
  have s1 := l1.1
  have l2 := l1.up (Low.push (Nat.le_refl h1.size) (.cells [] 46)) l1.1
  simp (disch := first | omega | decide | with_unfolding_all rfl) [hR, hU, hc', RF_of r1]
  refine RM_bapp (g := h1.size) (n := 0) (m := xs.length) .new rfl (by omega) s1 (by simp) (hr.low l2 (Nat.le_refl _)).src (by rw [elems_len spC_len]) (sp_one xs) (by simp) (by omega) (by omega) fun w1 h3 bf1 l3 => ?_
  replace l3 := (Low.push (Nat.le_refl h1.size) (.cells [] 46)).trans l3
  have l4 := l1.up l3 s1
  simp
  refine RM_bapp (g := h1.size) (n := xs.length) (m := ys.length) bf1 (by simpa using sp_one xs) (by omega) s1 l3.1 (hu.low l4 (Nat.le_refl _)).src (by rw [elems_len spC_len]) (sp_one ys) (by simp [elems_len spC_len]) (by omega) (by omega) fun w2 h4 bf2 l5 => ?_
  replace l5 := l3.trans l5
  have l6 := l1.up l5 s1
  rw [List.nil_append, ← elems_append] at bf2
  have q2 : SRow h4 w2 (xs ++ ys) := bf2.row (by omega) (by rw [elems_len spC_len])
  simp
  refine RF_by (algCuts_R (f := h.size) q2 (by rw [List.length_append]; omega) hxy) fun vc h5 ⟨nc, l7⟩ => ?_
  have l8 := l6.up l7 l6.1
  have q3 : SRow h5 v1 (refineW xs ys) := (q1.low l5 (Nat.le_refl _)).low l7 (Nat.le_refl _)
  have q4 : CRow h5 vc (riseL (cutsOf (xs ++ ys))) := nc.row cuC_len (by omega)
  replace hr := hr.low l8 (Nat.le_refl _)
  replace hu := hu.low l8 (Nat.le_refl _)
  have s5 := l8.1
  clear hR hU hlt hlu
  have hP := q3.R spC_len
  have hlp := q3.lt
  have hC := q4.R cuC_len
  have hlc := q4.lt
  generalize hps : refineW xs ys = ps at *
  generalize hcu : riseL (cutsOf (xs ++ ys)) = cs at *
  simp (disch := first | omega | decide | with_unfolding_all rfl) [hP]
  obtain ⟨J, hJ⟩ : ∃ J : Nat → Env → Heap → Prop, J = fun i e h' => e 29 = .int .i64 (i : Nat) ∧ i ≤ ps.length ∧ Low h5.size h5 h' := ⟨_, rfl⟩
  refine Run_while xlow [30, 31, 32, 8, 33, 34, 35, 36, 37, 38, 10, 39, 40, 41, 42, 43, 44, 45, 46, 47, 48, 4, 49, 35, 50, 29] s5 J (fun x => ps.length - x) 0 rfl (hJ ▸ ⟨by simp, by simp, .refl _ _⟩) ?_
  rintro i e h' j0 ke _
  rw [hJ] at j0
  obtain ⟨e29, hi, hl'⟩ := j0
  have e0 : e 0 = va := by rw [ke 0 (by decide)]; simp
  have e1 : e 1 = vb := by rw [ke 1 (by decide)]; simp
  have e5 : e 5 = v1 := by rw [ke 5 (by decide)]; simp
  have e6 : e 6 = vc := by rw [ke 6 (by decide)]; simp
  have e27 : e 27 = v1 := by rw [ke 27 (by decide)]; simp
  have e28 : e 28 = .int .i64 ps.length := by rw [ke 28 (by decide)]; simp
  clear ke
  have s6 := hl'.1
  by_cases hlt2 : i < ps.length
  · have hps' := nth_mem hlt2
    have hi1 : ((i : Int) + 1) = ((i + 1 : Nat) : Int) := by omega
    have lp : Low h5.size h5 (h'.push (.cells (spC (nth ps i)) 46)) := hl'.up (Low.push (Nat.le_refl _) _) s6
    have cb : (h'.push (.cells (spC (nth ps i)) 46))[h'.size]? = some (.cells (spC (nth ps i)) 46) := push_at rfl
    have t1 := fun x hx' => tight (nth ps i) hps' x hx'
    generalize hsd : nth ps i = sp at *
    simp (disch := first | omega | decide | with_unfolding_all rfl) [e0, e1, e5, e6, e27, e28, e29, hP, hC, hl'.c, hlt2, hsd, spC]
    change (Low h5.size h5 (h'.push (.cells [.int .i64 sp.a, .int .i64 sp.b, .int .i64 sp.c, .int .i64 sp.d] 46))) at lp
    change (h'.push (.cells [.int .i64 sp.a, .int .i64 sp.b, .int .i64 sp.c, .int .i64 sp.d] 46))[h'.size]? = _ at cb
    have s7 : h'.size < (h'.push (.cells [.int .i64 sp.a, .int .i64 sp.b, .int .i64 sp.c, .int .i64 sp.d] 46)).size := by simp
    generalize h'.push (.cells [.int .i64 sp.a, .int .i64 sp.b, .int .i64 sp.c, .int .i64 sp.d] 46) = hb at *
    obtain ⟨I, hI⟩ : ∃ I : Nat → Env → Heap → Prop, I = fun j e h2 => e 35 = .int .i64 (j : Nat) ∧ j ≤ cs.length ∧ Low hb.size hb h2 := ⟨_, rfl⟩
    refine Run_while xlow [36, 37, 38, 10, 39, 40, 41, 42, 43, 44, 45, 46, 47, 48, 4, 49, 35] (by omega) I (fun x => cs.length - x) 0 rfl (hI ▸ ⟨by simp, by simp, .refl _ _⟩) ?_
    rintro j e2 h2 i0 ke2 _
    rw [hI] at i0
    obtain ⟨e35, hj, hl2⟩ := i0
    have q8 : e2 8 = .pointer (some ⟨h'.size, 0, none⟩) := by rw [ke2 8 (by decide)]; simp
    have q33 : e2 33 = vc := by rw [ke2 33 (by decide)]; simp
    have q34 : e2 34 = .int .i64 cs.length := by rw [ke2 34 (by decide)]; simp
    have q29 : e2 29 = .int .i64 (i : Nat) := by rw [ke2 29 (by decide)]; simp [e29]
    clear ke2
    have s2 := hl2.1
    have lpc := lp.up hl2 lp.1
    have cb2 : h2.cellsAt h'.size = some (spC sp) := by rw [hl2.c s7]; simp [Heap.cellsAt, cb]
    by_cases hlt3 : j < cs.length
    · have t2 := t1 _ (nth_mem hlt3)
      generalize hxd : nth cs j = x at *
      have hj1 : ((j : Int) + 1) = ((j + 1 : Nat) : Int) := by omega
      have t3 : (lessC (sp.a, sp.b) (x.1, x.2) && lessC (x.1, x.2) (sp.c, sp.d)) = false := t2
      clear t2 t1
      cases hlx : lessC (sp.a, sp.b) (x.1, x.2) <;> cases hlx2 : lessC (x.1, x.2) (sp.c, sp.d) <;> simp only [hlx, hlx2, Bool.and_true, Bool.and_false, Bool.and_self, reduceCtorEq] at t3 <;>
      simp (disch := first | omega | decide | with_unfolding_all rfl) [q8, q33, q34, q29, e35, hC, lpc.c, cb2, hlt3, hxd, cuC, spC, RF_of (up less_runs), hlx, hlx2] <;>
      exact .mk (j + 1) (hI ▸ ⟨by simp, by omega, hl2.up (Low.push (Nat.le_refl _) _) hl2.1⟩) (by first | omega | (simp only; omega))
    · simp (disch := first | omega | decide | with_unfolding_all rfl) [q8, q33, q34, q29, e35, hlt3]
      exact .mk (i + 1) (hJ ▸ ⟨by simp, by omega, lpc⟩) (by first | omega | (simp only; omega))
  · replace hr := hr.low hl' (Nat.le_refl _)
    replace hu := hu.low hl' (Nat.le_refl _)
    replace q3 := q3.low hl' (Nat.le_refl _)
    obtain ⟨v6, h6, r6, l6', q6⟩ := made (refine11_runs (f := h.size) hr hu (by omega) hx hy) (by rw [hps]; omega)
    rw [hps] at q6
    have e6' := same_eq (f := h.size) (q3.low l6' (Nat.le_refl _)) q6 rfl (by omega)
    replace hr := hr.low l6' (Nat.le_refl _)
    replace q3 := q3.low l6' (Nat.le_refl _)
    have s7 := l6'.1
    simp (disch := first | omega | decide | with_unfolding_all rfl) [e0, e1, e5, e6, e27, e28, e29, hlt2, RF_of alive_runs, RF_of r6, RF_of e6']
    refine RF_by (algCuts_R (f := h.size) hr (by omega) hx) fun vd h7 ⟨nd, l9⟩ => ?_
    replace hr := hr.low l9 (Nat.le_refl _)
    replace q3 := q3.low l9 (Nat.le_refl _)
    have s8 := l9.1
    have r8 := cuts3_runs (f := h.size) hr (by omega) hx
    have l10 := low_pushR (Nat.le_refl h7.size) 44 (elems cuC (riseL (cutsOf xs)))
    have q8 := row_pushR (h := h7) (e := 44) (xs := riseL (cutsOf xs)) cuC_len (by omega)
    generalize rowV h7.size (riseL (cutsOf xs)).length = v8 at *
    generalize pushR h7 44 (elems cuC (riseL (cutsOf xs))) = h8 at *
    replace hr := hr.low l10 (Nat.le_refl _)
    replace q3 := q3.low l10 (Nat.le_refl _)
    have e8 := same2_eq (f := h.size) ((nd.row cuC_len (by omega)).low l10 (Nat.le_refl _)) q8 rfl (by omega)
    obtain ⟨v9, h9, r9, l11, q9⟩ := made (list3_runs (f := h.size) q3 (by omega) okr) (by rw [elist]; omega)
    rw [elist] at q9
    replace hr := hr.low l11 (Nat.le_refl _)
    obtain ⟨va', ha, ra, l12, qa⟩ := made (list3_runs (f := h.size) hr (by omega) hx) (by omega)
    have ea := same_eq (f := h.size) (q9.low l12 (Nat.le_refl _)) qa rfl (by omega)
    simp (disch := first | omega | decide | with_unfolding_all rfl) [e0, e1, e5, e6, e27, e28, e29, RF_of r8, RF_of e8, RF_of r9, RF_of ra, RF_of ea]
end Go.Proofs.Ytlgbeekhaoiggaa
end
