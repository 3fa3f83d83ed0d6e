import Derived.Test.YtlgbeekhaoiggaaCodeP
set_option linter.all false
section
namespace Go.Proofs.Ytlgbeekhaoiggaa
open Go.AM
theorem digR_dig : ∀ (n : Nat), ∀ b ∈ digR n, isDig b := by
  intro n
  induction n using Nat.strongRecOn with
  | _ n ih =>
    intro b hb
    have key : ∀ m, m < 10 → isDig (UInt8.ofNat (48 + m)) := fun m hm => by unfold isDig; simp; omega
    by_cases h10 : n < 10
    · rw [digR_small h10, List.mem_singleton] at hb; subst hb; exact key n h10
    · rw [digR_big h10] at hb
      rcases List.mem_cons.1 hb with rfl | q
      · exact key _ (by omega)
      · exact ih (n / 10) (by omega) b q
theorem dval_ofNat {m : Nat} (h : m < 10) : dval (UInt8.ofNat (48 + m)) = m := by unfold dval; simp; omega
theorem numV_digR : ∀ (n : Nat), numV ((digR n).map dval) = n := by
  intro n
  induction n using Nat.strongRecOn with
  | _ n ih =>
    by_cases h10 : n < 10
    · rw [digR_small h10]; simp only [List.map_cons, List.map_nil, numV, dval_ofNat h10]; omega
    · rw [digR_big h10]
      simp only [List.map_cons, numV, ih (n / 10) (by omega), dval_ofNat (show n % 10 < 10 by omega)]; omega
theorem digR_ne (n : Nat) : digR n ≠ [] := by rw [digR]; split <;> simp
theorem digR_last : ∀ (n : Nat), n ≠ 0 → (digR n).getLast? ≠ some 48 := by
  intro n
  induction n using Nat.strongRecOn with
  | _ n ih =>
    intro h0
    by_cases h10 : n < 10
    · rw [digR_small h10]
      simp only [List.getLast?_singleton, ne_eq, Option.some.injEq]
      intro e
      have := congrArg UInt8.toNat e
      simp at this; omega
    · rw [digR_big h10]
      obtain ⟨a, r, e⟩ : ∃ a r, digR (n / 10) = a :: r := by
        cases q : digR (n / 10) with
        | nil => exact absurd q (digR_ne _)
        | cons a r => exact ⟨a, r, rfl⟩
      have := ih (n / 10) (by omega) (by omega)
      rw [e] at this ⊢
      simpa using this
theorem digOk_rev {neg : Prop} [Decidable neg] {n : Nat} (h1 : neg → n ≠ 0) (h2 : n ≤ most neg) : digOk neg (digR n).reverse ∧ hn 0 (digR n).reverse = n := by
  have hv : hn 0 (digR n).reverse = n := by rw [hn_numV, List.map_reverse, List.reverse_reverse, numV_digR]
  refine ⟨⟨fun b hb => digR_dig n b (by simpa using hb), by simpa using digR_ne n, ?_, by rw [hv]; exact h2⟩, hv⟩
  rintro ⟨q1, q2⟩
  rw [List.head?_reverse] at q1
  by_cases h0 : n = 0
  · subst h0
    rcases q2 with q | q
    · rw [digR_small (by omega)] at q; simp at q
    · exact h1 q rfl
  · exact digR_last n h0 q1
theorem parseN_45 (D : List UInt8) : parseN (45 :: D) = if digOk True D then some (-(hn 0 D : Int)) else none := by unfold parseN; rw [List.head?_cons, if_pos rfl]; rfl
theorem parseN_satT' {v : Int} (hv : okI v) : parseN (satT v) = some v := by
  unfold okI at hv
  unfold satT
  by_cases h0 : v < 0
  · rw [if_pos h0]
    obtain ⟨d1, d2⟩ := digOk_rev (neg := True) (n := v.natAbs) (by omega) (by simp [most]; omega)
    rw [List.cons_append, List.nil_append, parseN_45, if_pos d1, d2]; congr 1; omega
  · unfold parseN
    rw [if_neg h0, List.nil_append]
    obtain ⟨d1, d2⟩ := digOk_rev (neg := False) (n := v.natAbs) (by simp) (by simp [most]; omega)
    rw [if_neg, if_pos d1, d2]
    · congr 1; omega
    · intro q
      have : (45 : UInt8) ∈ (digR v.natAbs).reverse := List.mem_of_mem_head? q
      have := d1.1 45 this
      simp [isDig] at this
theorem satT_20 {v : Int} (hv : okI v) : 1 ≤ (satT v).length ∧ (satT v).length ≤ 20 := by
  unfold okI at hv
  have h1 := digR_len 19 v.natAbs (by omega) (by omega)
  have h2 : 0 < (digR v.natAbs).length := List.length_pos_iff.2 (digR_ne _)
  unfold satT; split <;> simp <;> omega
def noDig (r : List UInt8) : Prop := ∀ c, r.head? = some c → ¬ isDig c
theorem parseN_more {v : Int} {r : List UInt8} {m : Nat} (hr : noDig r) (h1 : (satT v).length < m) (h2 : m ≤ (satT v ++ r).length) : parseN ((satT v ++ r).take m) = none := by
  obtain ⟨c, r', rfl⟩ : ∃ c r', r = c :: r' := by
    rcases r with _ | ⟨c, r'⟩
    · simp at h2; omega
    · exact ⟨c, r', rfl⟩
  have hc := hr c rfl
  have hmem : c ∈ (satT v ++ c :: r').take m := by
    rw [List.take_append]
    refine List.mem_append.2 (.inr ?_)
    obtain ⟨k, hk⟩ : ∃ k, m - (satT v).length = k + 1 := ⟨m - (satT v).length - 1, by omega⟩
    rw [hk]; simp
  have hne : satT v ≠ [] := fun e => by unfold satT at e; exact digR_ne v.natAbs (by simpa using (List.append_eq_nil_iff.1 e).2)
  unfold parseN
  split
  · rename_i hh
    rw [if_neg]
    intro q
    refine hc (q.1 c ?_)
    -- it stands behind the sign
    obtain ⟨a, t, e⟩ : ∃ a t, satT v = a :: t := by cases q : satT v with | nil => exact absurd q hne | cons a t => exact ⟨a, t, rfl⟩
    rw [e] at h1 ⊢
    obtain ⟨k, hk⟩ : ∃ k, m = k + 1 := ⟨m - 1, by simp at h1; omega⟩
    subst hk
    simp only [List.cons_append, List.take_succ_cons, List.tail_cons]
    rw [List.take_append]
    refine List.mem_append.2 (.inr ?_)
    obtain ⟨k', hk'⟩ : ∃ k', k - t.length = k' + 1 := ⟨k - t.length - 1, by simp at h1; omega⟩
    rw [hk']; simp
  · rw [if_neg]
    intro q
    exact hc (q.1 c hmem)
theorem satRead_satT {v : Int} {r : List UInt8} (hv : okI v) (hr : noDig r) : satRead (satT v ++ r) = (v, (satT v).length) := by
  have h20 := satT_20 hv
  have e : longest parseN (satT v ++ r) (min 20 (satT v ++ r).length) = some (v, (satT v).length) := by
    refine longest_eq h20.1 (by simp; omega) (by rw [List.take_left]; exact parseN_satT' hv) fun m h1 h2 => parseN_more hr h1 (by omega)
  rw [satRead_longest] at e
  split at e
  · cases e
  · exact Option.some.inj e
theorem satT_head {v : Int} {r : List UInt8} : ¬ (satT v ++ r).take 4 = minf ∧ ¬ (satT v ++ r).take 4 = pinf := by
  obtain ⟨a, t, e⟩ : ∃ a t, (digR v.natAbs).reverse = a :: t := by
    cases q : (digR v.natAbs).reverse with
    | nil => exact absurd (by simpa using q) (digR_ne v.natAbs)
    | cons a t => exact ⟨a, t, rfl⟩
  have ha : isDig a := digR_dig v.natAbs a (by have : a ∈ (digR v.natAbs).reverse := by rw [e]; simp
                                               simpa using this)
  obtain ⟨a1, a2⟩ := ha
  unfold satT
  rw [e]
  unfold minf pinf
  by_cases h0 : v < 0
  · rw [if_pos h0]
    simp only [List.cons_append, List.nil_append, List.take_succ_cons, List.cons.injEq]
    constructor
    · rintro ⟨_, q, _⟩; rw [q] at a1 a2; simp at a2
    · rintro ⟨q, _⟩; simp at q
  · rw [if_neg h0]
    simp only [List.nil_append, List.cons_append, List.take_succ_cons, List.cons.injEq]
    constructor
    · rintro ⟨q, _⟩; rw [q] at a1; simp at a1
    · rintro ⟨q, _⟩; rw [q] at a1; simp at a1
theorem plainR_satT {v : Int} {r : List UInt8} (hv : okI v) (hm : v ≠ -9223372036854775808) (hr : noDig r) : plainR (satT v ++ r) = (v, (satT v).length) := by
  have h20 := satT_20 hv
  obtain ⟨g1, g2⟩ := satT_head (v := v) (r := r)
  have e : longest parseC (satT v ++ r) (min 20 (satT v ++ r).length) = some ((0, v), (satT v).length) := by
    refine longest_eq h20.1 (by simp; omega) ?_ fun m h1 h2 => ?_
    · rw [parseC_num g1 g2 _ (by simp), List.take_left, parseN_satT' hv]; simp [hm]
    · rw [parseC_num g1 g2 _ (by omega), parseN_more hr h1 (by omega)]
  unfold plainR cutR
  rw [e]; rfl
end Go.Proofs.Ytlgbeekhaoiggaa
end

section
namespace Go.Proofs.Ytlgbeekhaoiggaa
open Go.AM
theorem sk_stay {lo : Bool} {l r : List UInt8} {i : Nat} {c : UInt8} (h : l.drop i = c :: r) (hc : c ≠ 32) : sk lo l i = i := by
  unfold sk; split
  · unfold skip
    rw [h, List.takeWhile_cons, if_neg (by simpa using hc)]; simp
  · rfl
theorem sk_nil {lo : Bool} {l : List UInt8} {i : Nat} (h : l.drop i = []) : sk lo l i = i := by
  unfold sk; split
  · unfold skip; rw [h]; simp
  · rfl
theorem isAt_pre {l w r : List UInt8} {i : Nat} (h : l.drop i = w ++ r) : isAt l i w = true := by
  unfold isAt; rw [h, List.take_left]; simp
theorem isAt_not {l w : List UInt8} {i : Nat} (h : (l.drop i).take w.length ≠ w) : isAt l i w = false := by
  unfold isAt; simpa using h
theorem drop_app {l t r : List UInt8} {i : Nat} (h : l.drop i = t ++ r) : l.drop (i + t.length) = r := by
  rw [← List.drop_drop, h, List.drop_left]
theorem endN_inf {lo : Bool} {l w r : List UInt8} {i : Nat} (h : l.drop i = w ++ r) : endN lo l i w = ((0, 0), some (i + 4)) := by
  unfold endN; rw [if_pos (isAt_pre h)]
theorem endN_num {lo : Bool} {l w r : List UInt8} {i : Nat} {a : Int} (hw : w = minf ∨ w = pinf) (h : l.drop i = satT a ++ r) (hr : noDig r) (ha : okI a) (hm : a ≠ -9223372036854775808) : isAt l i w = false ∧ endN lo l i w = ((1, a), some (i + (satT a).length)) := by
  have hn : isAt l i w = false := by
    apply isAt_not
    rw [h]
    have := satT_head (v := a) (r := r)
    rcases hw with rfl | rfl
    · exact this.1
    · exact this.2
  refine ⟨hn, ?_⟩
  have h20 := satT_20 ha
  unfold endN
  rw [if_neg (by rw [hn]; simp), h, satRead_satT ha hr, plainR_satT ha hm hr]
  have : ¬ (satT a).length = 0 := by omega
  cases lo <;> simp [this]
theorem low_read {lo : Bool} {l r : List UInt8} {a b : Int} (hc : canon (a, b) = (a, b)) (hb : okI b) (ha : a = -1 ∨ a = 0) (h : l.drop 0 = (if a = -1 ∧ b = 0 then [40] else [91]) ++ (cutT (a, b) ++ (44 :: r))) :
    ∃ low c, (isAt l 0 [40] = true ∨ isAt l 0 [91] = true) ∧ isAt l 0 [40] = isAt l 1 minf ∧ sk lo l 1 = 1 ∧ endN lo l 1 minf = (c, some (1 + (cutT (a, b)).length)) ∧ (if c.1 = 1 ∧ isAt l 0 [40] = false then (2, c.2) else c) = low ∧ lowC low.1 low.2 = (a, b) ∧ (0 ≤ low.1 ∧ low.1 ≤ 2) ∧ l.drop (1 + (cutT (a, b)).length) = 44 :: r := by
  rcases ha with rfl | rfl
  · have hb0 : b = 0 := by
      have : canon (-1, b) = (-1, 0) := canon_neg (.inl (by omega))
      rw [hc] at this; injection this
    subst hb0
    rw [if_pos ⟨rfl, rfl⟩] at h
    have e1 : l.drop 1 = minf ++ 44 :: r := drop_app (t := [40]) (i := 0) h
    have e2 : l.drop (1 + minf.length) = 44 :: r := drop_app e1
    have i0 : isAt l 0 [40] = true := isAt_pre h
    have i1 : isAt l 1 minf = true := isAt_pre e1
    exact ⟨(0, 0), (0, 0), .inl i0, by rw [i0, i1], sk_stay (show l.drop 1 = 45 :: _ from e1) (by decide), endN_inf e1, by simp, rfl, by decide, e2⟩
  · have hne : b ≠ -9223372036854775808 := fun e => by
      have : canon (0, b) = (-1, 0) := canon_neg (.inr ⟨rfl, e⟩)
      rw [hc] at this; injection this with q _; cases q
    rw [if_neg (by simp), cutT_mid hne] at h
    rw [cutT_mid hne]
    have e1 : l.drop 1 = satT b ++ 44 :: r := drop_app (t := [91]) (i := 0) h
    have e2 : l.drop (1 + (satT b).length) = 44 :: r := drop_app e1
    have hnd : noDig (44 :: r) := fun c hc' => by simp at hc'; subst hc'; unfold isDig; decide
    obtain ⟨q1, q2⟩ := endN_num (lo := lo) (.inl rfl) e1 hnd hb hne
    have i0 : isAt l 0 [40] = false := isAt_not (by rw [h]; simp)
    have i1 : isAt l 0 [91] = true := isAt_pre h
    obtain ⟨x, t, ex⟩ : ∃ x t, satT b = x :: t := by
      have := satT_20 hb
      cases q : satT b with
      | nil => rw [q] at this; simp at this
      | cons x t => exact ⟨x, t, rfl⟩
    have hx : x ≠ 32 := by
      intro e
      have hx2 : x ∈ satT b := by rw [ex]; simp
      unfold satT at hx2
      rcases List.mem_append.1 hx2 with q | q
      · split at q
        · simp at q; rw [q] at e; cases e
        · simp at q
      · have := digR_dig b.natAbs x (by simpa using q)
        rw [e] at this; unfold isDig at this; simp at this
    refine ⟨(2, b), (1, b), .inr i1, by rw [i0, q1], sk_stay (show l.drop 1 = x :: (t ++ 44 :: r) by rw [e1, ex]; rfl) hx, q2, by rw [i0]; simp, ?_, by simp, e2⟩
    unfold lowC; simp [hc]
end Go.Proofs.Ytlgbeekhaoiggaa
end

section
namespace Go.Proofs.Ytlgbeekhaoiggaa
open Go.AM
theorem satT_first {b : Int} (hb : okI b) : ∃ x t, satT b = x :: t ∧ x ≠ 32 := by
  obtain ⟨x, t, ex⟩ : ∃ x t, satT b = x :: t := by
    have := satT_20 hb
    cases q : satT b with
    | nil => rw [q] at this; simp at this
    | cons x t => exact ⟨x, t, rfl⟩
  refine ⟨x, t, ex, fun e => ?_⟩
  have hx2 : x ∈ satT b := by rw [ex]; simp
  unfold satT at hx2
  rcases List.mem_append.1 hx2 with q | q
  · split at q
    · simp at q; rw [q] at e; cases e
    · simp at q
  · have := digR_dig b.natAbs x (by simpa using q)
    rw [e] at this; unfold isDig at this; simp at this
theorem high_read {lo : Bool} {l r : List UInt8} {c d : Int} {i : Nat} (hc : canon (c, d) = (c, d)) (hd : okI d) (hh : c = 1 ∨ c = 0) (h : l.drop i = cutT (c, d) ++ 41 :: r) :
    ∃ e, sk lo l i = i ∧ endN lo l i pinf = (e, some (i + (cutT (c, d)).length)) ∧ highC e.1 e.2 = (c, d) ∧ (0 ≤ e.1 ∧ e.1 ≤ 2) ∧ l.drop (i + (cutT (c, d)).length) = 41 :: r := by
  rcases hh with rfl | rfl
  · have hd0 : d = 0 := by
      have : canon (1, d) = (1, 0) := canon_pos (by omega)
      rw [hc] at this; injection this
    subst hd0
    have e1 : l.drop i = pinf ++ 41 :: r := h
    exact ⟨(0, 0), sk_stay (show l.drop i = 43 :: _ from e1) (by decide), endN_inf e1, rfl, by decide, drop_app e1⟩
  · have hne : d ≠ -9223372036854775808 := fun e => by
      have : canon (0, d) = (-1, 0) := canon_neg (.inr ⟨rfl, e⟩)
      rw [hc] at this; injection this with q _; cases q
    rw [cutT_mid hne] at h ⊢
    have hnd : noDig (41 :: r) := fun c hc' => by simp at hc'; subst hc'; unfold isDig; decide
    obtain ⟨q1, q2⟩ := endN_num (lo := lo) (.inr rfl) h hnd hd hne
    obtain ⟨x, t, ex, hx⟩ := satT_first hd
    refine ⟨(1, d), sk_stay (show l.drop i = x :: (t ++ 41 :: r) by rw [h, ex]; rfl) hx, q2, ?_, by simp, drop_app h⟩
    unfold highC; simp [hc]
theorem canon_side' (c : Int × Int) : (canon c).1 = -1 ∨ (canon c).1 = 1 ∨ (canon c).1 = 0 := by
  unfold canon; split
  · simp
  · split
    · simp
    · right; right; omega
theorem rightS_ends {a b c d : Int} (h : rightS a b c d = true) : canon (a, b) = (a, b) ∧ canon (c, d) = (c, d) ∧ (a = -1 ∨ a = 0) ∧ (c = 1 ∨ c = 0) := by
  unfold rightS at h
  simp only [Bool.and_eq_true] at h
  obtain ⟨⟨h1, h2⟩, h3⟩ := h
  unfold rightC at h1 h2
  simp only [Bool.and_eq_true, beq_iff_eq] at h1 h2
  have e1 : canon (a, b) = (a, b) := Prod.ext h1.1 h1.2
  have e2 : canon (c, d) = (c, d) := Prod.ext h2.1 h2.2
  unfold lessC at h3
  rw [e1, e2] at h3
  simp only at h3
  have s1 := canon_side' (a, b)
  have s2 := canon_side' (c, d)
  rw [e1] at s1
  rw [e2] at s2
  simp only at s1 s2
  have z1 : a = 1 → b = 0 := fun q => by
    have := canon_pos (b := b) (show 0 < a by omega)
    rw [e1] at this; injection this
  have z2 : c = -1 → d = 0 := fun q => by
    have := canon_neg (b := d) (show negC c d from .inl (by omega))
    rw [e2] at this; injection this
  have z3 : a = -1 → b = 0 := fun q => by
    have := canon_neg (b := b) (show negC a b from .inl (by omega))
    rw [e1] at this; injection this
  have z4 : c = 1 → d = 0 := fun q => by
    have := canon_pos (b := d) (show 0 < c by omega)
    rw [e2] at this; injection this
  refine ⟨e1, e2, ?_, ?_⟩
  · split at h3
    · have := of_decide_eq_true h3; omega
    · have := of_decide_eq_true h3; omega
  · split at h3
    · have := of_decide_eq_true h3; omega
    · have := of_decide_eq_true h3; omega
theorem readN_boundT {lo : Bool} {s : Sp} {l r : List UInt8} (hs : okS s) (hr : rightS s.a s.b s.c s.d = true) (hl : l = boundT s ++ r) : readN lo l = (s, (boundT s).length, 0) := by
  obtain ⟨a, b, c, d⟩ := s
  simp only at hr
  obtain ⟨_, hb, _, hd⟩ := hs
  simp only at hb hd
  obtain ⟨e1, e2, ha, hc⟩ := rightS_ends hr
  have hB : boundT ⟨a, b, c, d⟩ = (if a = -1 ∧ b = 0 then [40] else [91]) ++ cutT (a, b) ++ [44] ++ cutT (c, d) ++ [41] := by unfold boundT; simp only [hr, if_true]
  have hlen : (boundT ⟨a, b, c, d⟩).length = 1 + (cutT (a, b)).length + 1 + (cutT (c, d)).length + 1 := by
    rw [hB]; split <;> simp <;> omega
  rw [hB] at hl
  obtain ⟨low, c1, i0, i1, s1, n1, w1, l1, b1, d1⟩ := low_read (lo := lo) (l := l) (r := cutT (c, d) ++ 41 :: r) e1 hb ha (by rw [hl]; simp)
  have d2 := drop_app (t := [44]) d1
  simp only [List.length_cons, List.length_nil, Nat.zero_add] at d2
  obtain ⟨e, s2, n2, l2, b2, d3⟩ := high_read (lo := lo) e2 hd hc d2
  have j1 : sk lo l (1 + (cutT (a, b)).length) = 1 + (cutT (a, b)).length := sk_stay d1 (by decide)
  have j2 : sk lo l (1 + (cutT (a, b)).length + 1 + (cutT (c, d)).length) = 1 + (cutT (a, b)).length + 1 + (cutT (c, d)).length := sk_stay d3 (by decide)
  have t44 : isAt l (1 + (cutT (a, b)).length) [44] = true := isAt_pre (w := [44]) d1
  have t41 : isAt l (1 + (cutT (a, b)).length + 1 + (cutT (c, d)).length) [41] = true := isAt_pre (w := [41]) d3
  have t93 : isAt l (1 + (cutT (a, b)).length + 1 + (cutT (c, d)).length) [93] = false := isAt_not (by rw [d3]; simp)
  have hsp : spanB low.1 low.2 e.1 e.2 = (⟨a, b, c, d⟩, 0) := by
    unfold spanB
    rw [if_pos ⟨b1, b2⟩, l1, l2]
    unfold spanOf
    rw [e1, e2]
    simp only [hr, if_true]
  rw [hlen]
  generalize 1 + (cutT (a, b)).length = j at *
  unfold readN
  rw [if_neg (by rintro ⟨q1, q2⟩; rcases i0 with q | q; rw [q] at q1; cases q1; rw [q] at q2; cases q2), s1]
  unfold readA
  rw [if_neg (by rintro ⟨_, q⟩; exact q i1), n1]
  simp only [w1, j1]
  unfold readB
  rw [if_pos t44, s2]
  unfold readC
  rw [n2]
  simp only [j2]
  unfold readD
  simp only [t93, t41, Bool.and_false, Bool.false_eq_true, and_false, if_false, reduceCtorEq, hsp, if_true]
end Go.Proofs.Ytlgbeekhaoiggaa
end

section
namespace Go.Proofs.Ytlgbeekhaoiggaa
open Go.AM
def rightG (x : Sg) : Prop := rightS x.s.a x.s.b x.s.c x.s.d = true
def castG (nums : Bool) (x : Sg) : Sg := if nums then x else ⟨x.s, 0⟩
theorem boundT_first {s : Sp} (h : rightS s.a s.b s.c s.d = true) : ∃ x t, boundT s = x :: t ∧ x ≠ 32 := by
  unfold boundT
  rw [if_pos h]
  split
  · exact ⟨40, _, rfl, by decide⟩
  · exact ⟨91, _, rfl, by decide⟩
theorem elT_first {nums : Bool} {x : Sg} (h : rightG x) : ∃ c t, elT nums x = c :: t ∧ c ≠ 32 := by
  obtain ⟨c, t, e, hc⟩ := boundT_first h
  unfold elT segT
  rw [e]
  cases nums
  · exact ⟨c, t, rfl, hc⟩
  · exact ⟨c, t ++ [61, 62] ++ satT x.v, by simp, hc⟩
theorem oneN_read {nums lo : Bool} {l r : List UInt8} {i : Nat} {x : Sg} (hx : okG x) (hr : rightG x) (h : l.drop i = elT nums x ++ r) (hd : noDig r) : oneN nums lo l i = (castG nums x, i + (elT nums x).length, 0) := by
  obtain ⟨c, t, e, hc⟩ := boundT_first hr
  cases nums with
  | false =>
    have h2 : readN lo (l.drop i) = (x.s, (boundT x.s).length, 0) := readN_boundT hx.1 hr h
    unfold oneN
    rw [h2, if_pos (.inr rfl)]
    rfl
  | true =>
    have hE : elT true x = boundT x.s ++ [61, 62] ++ satT x.v := by unfold elT segT; rw [if_pos rfl, if_neg (by rw [e]; simp)]
    rw [hE] at h ⊢
    have h2 : readN lo (l.drop i) = (x.s, (boundT x.s).length, 0) := readN_boundT hx.1 hr (r := [61, 62] ++ satT x.v ++ r) (by rw [h]; simp)
    have d1 : l.drop (i + (boundT x.s).length) = [61, 62] ++ (satT x.v ++ r) := drop_app (by rw [h]; simp)
    have d2 : l.drop (i + (boundT x.s).length + 2) = satT x.v ++ r := drop_app d1
    obtain ⟨c2, t2, e2, hc2⟩ := satT_first hx.2
    have s1 : sk lo l (i + (boundT x.s).length) = i + (boundT x.s).length := sk_stay (show _ = 61 :: _ from d1) (by decide)
    have s2 : sk lo l (i + (boundT x.s).length + 2) = i + (boundT x.s).length + 2 := sk_stay (show l.drop _ = c2 :: (t2 ++ r) by rw [d2, e2]; rfl) hc2
    have a1 : isAt l (i + (boundT x.s).length) [61, 62] = true := isAt_pre d1
    have h20 := satT_20 hx.2
    unfold oneN
    rw [h2, if_neg (by simp)]
    simp only [s1, s2]
    rw [if_neg (by rw [a1]; simp), d2, satRead_satT hx.2 hd, if_neg (by simp only; omega)]
    simp only [castG, if_true]
    rw [show i + (boundT x.s).length + 2 + (satT x.v).length = i + (boundT x.s ++ [61, 62] ++ satT x.v).length by simp; omega]
theorem noDig_flat (ts : List (List UInt8)) : noDig (ts.flatMap fun t => 59 :: t) := by
  intro c hc
  cases ts with
  | nil => simp at hc
  | cons t r => simp at hc; subst hc; unfold isDig; decide
theorem sk_flat {lo : Bool} {l : List UInt8} {i : Nat} {ts : List (List UInt8)} (h : l.drop i = ts.flatMap fun t => 59 :: t) : sk lo l i = i := by
  cases ts with
  | nil => exact sk_nil h
  | cons t r => exact sk_stay (show l.drop i = 59 :: _ by rw [h]; rfl) (by decide)
theorem rowE_read (nums lo : Bool) (l : List UInt8) : ∀ (xs : List Sg) (first : Bool) (i : Nat), (∀ x ∈ xs, okG x ∧ rightG x) → i ≤ l.length → l.drop i = partT first (xs.map (elT nums)) →
    ∃ zs, rowE nums lo l first i = (zs, l.length, 0) ∧ zs.map (·.1) = xs.map (castG nums)
  | [], first, i, _, hi, h => by
    have h0 : l.drop i = [] := by rw [h]; cases first <;> rfl
    have : l.length ≤ i := List.drop_eq_nil_iff.1 h0
    exact ⟨[], by rw [rowE_end (by omega), show i = l.length by omega], rfl⟩
  | x :: xs, first, i, hx, hi, h => by
    obtain ⟨hxo, hxr⟩ := hx x (by simp)
    obtain ⟨c, t, e, hc⟩ := elT_first (nums := nums) hxr
    have hb : l.drop (begA first lo l i) = elT nums x ++ (xs.map (elT nums)).flatMap (fun t => 59 :: t) ∧ (first = true ∨ isAt l i [59] = true) ∧ i ≤ begA first lo l i := by
      cases first with
      | true =>
        refine ⟨?_, .inl rfl, Nat.le_refl _⟩
        have : begA true lo l i = i := rfl
        rw [this, h]
        unfold partT
        rw [if_pos rfl, List.map_cons, joinT_flat]
      | false =>
        have h1 : l.drop i = [59] ++ (elT nums x ++ (xs.map (elT nums)).flatMap (fun t => 59 :: t)) := by
          rw [h]; unfold partT; simp
        have h2 : l.drop (i + 1) = elT nums x ++ (xs.map (elT nums)).flatMap (fun t => 59 :: t) := drop_app h1
        have hs : sk lo l (i + 1) = i + 1 := sk_stay (show l.drop (i + 1) = c :: _ from by rw [h2, e]; rfl) hc
        have hbeg : begA false lo l i = i + 1 := by unfold begA; rw [if_neg (by simp), hs]
        rw [hbeg]
        exact ⟨h2, .inr (isAt_pre h1), by omega⟩
    obtain ⟨h1, hs, hbi⟩ := hb
    have ho := oneN_read (lo := lo) hxo hxr h1 (noDig_flat _)
    have hlt : i < l.length := by
      have : (l.drop (begA first lo l i)).length ≠ 0 := by rw [h1, e]; simp
      rw [List.length_drop] at this; omega
    obtain ⟨g1, g2, g3⟩ := rowE_go (nums := nums) (lo := lo) hlt hs (by rw [ho])
    have d2 := drop_app h1
    have hnx : nxtA nums first lo l i = begA first lo l i + (elT nums x).length := by unfold nxtA; rw [ho]; exact sk_flat d2
    rw [hnx] at g2 g3
    obtain ⟨zs, z1, z2⟩ := rowE_read nums lo l xs false _ (fun y hy => hx y (by simp [hy])) g2 (by rw [d2]; rfl)
    rw [g3, z1, ho]
    exact ⟨_, rfl, by simp [z2]⟩
theorem fb_sorted : ∀ (zs : List (Sg × Nat)) (p : Option Sg), sortedFrom (p.map (·.s)) (zs.map fun z => z.1.s) = true → fb p zs = none
  | [], p, _ => by cases p <;> rfl
  | z :: zs, none, h => by
    simp only [List.map_cons, Option.map_none, sortedFrom, Bool.and_eq_true] at h
    exact fb_sorted zs (some z.1) h.2
  | z :: zs, some p, h => by
    simp only [List.map_cons, Option.map_some, sortedFrom, Bool.and_eq_true, Bool.not_eq_true'] at h
    unfold fb
    rw [if_neg (by rw [h.1.2]; simp)]
    exact fb_sorted zs (some z.1) h.2
theorem sorted_right : ∀ (xs : List Sp) (p : Option Sp), sortedFrom p xs = true → ∀ x ∈ xs, rightS x.a x.b x.c x.d = true
  | [], _, _, _, hx => by simp at hx
  | y :: xs, p, h, x, hx => by
    simp only [sortedFrom, Bool.and_eq_true] at h
    rcases List.mem_cons.1 hx with rfl | q
    · exact h.1.1
    · exact sorted_right xs _ h.2 x q
theorem rowR_read {nums lo : Bool} {xs : List Sg} (hok : ∀ x ∈ xs, okG x) (hs : sortedFrom none (xs.map (·.s)) = true) (hl : (rowT (xs.map (elT nums))).length ≤ 65536) : rowR nums lo (rowT (xs.map (elT nums))) = (xs.map (castG nums), (rowT (xs.map (elT nums))).length, 0) := by
  have hright : ∀ x ∈ xs, rightG x := fun x hx => sorted_right _ _ hs x.s (List.mem_map_of_mem hx)
  have hni : [] ∉ xs.map (elT nums) := by
    intro q
    obtain ⟨x, hx, e⟩ := List.mem_map.1 q
    obtain ⟨c, t, e2, _⟩ := elT_first (nums := nums) (hright x hx)
    rw [e] at e2; cases e2
  have hrow : rowT (xs.map (elT nums)) = joinT (xs.map (elT nums)) := if_neg hni
  obtain ⟨l, hL⟩ : ∃ l, rowT (xs.map (elT nums)) = l := ⟨_, rfl⟩
  rw [hL] at hl hrow ⊢
  have h0 : sk lo l 0 = 0 := by
    cases xs with
    | nil => exact sk_nil (show l.drop 0 = [] from hrow)
    | cons x xs =>
      obtain ⟨c, t, e, hc⟩ := elT_first (nums := nums) (hright x (by simp))
      refine sk_stay (c := c) (r := t ++ (xs.map (elT nums)).flatMap fun t => 59 :: t) ?_ hc
      rw [List.drop_zero, hrow, List.map_cons, joinT_flat, e]; rfl
  obtain ⟨zs, z1, z2⟩ := rowE_read nums lo l xs true 0 (fun x hx => ⟨hok x hx, hright x hx⟩) (Nat.zero_le _) (by rw [List.drop_zero, hrow]; rfl)
  have hss : zs.map (fun z => z.1.s) = xs.map (·.s) := by
    have := congrArg (List.map (·.s)) z2
    rw [List.map_map, List.map_map] at this
    rw [show (zs.map fun z => z.1.s) = zs.map ((fun x : Sg => x.s) ∘ fun z => z.1) from rfl, this]
    apply List.map_congr_left
    intro x _
    unfold castG; simp only [Function.comp]; split <;> rfl
  have hfb : fb none zs = none := fb_sorted zs none (by rw [hss]; exact hs)
  unfold rowR
  rw [if_neg (by omega), h0, z1]
  simp only [ne_eq, not_true_eq_false, if_false, hfb]
  cases lo <;> simp [z2]
end Go.Proofs.Ytlgbeekhaoiggaa
end

section
namespace Go.Proofs.Ytlgbeekhaoiggaa
open Go.AM
set_option maxHeartbeats 4000000
variable {f : Nat} {h : Heap}
theorem castG_true (xs : List Sg) : xs.map (castG true) = xs := by
  conv => rhs; rw [← List.map_id xs]
  rfl
theorem castG_s (nums : Bool) (xs : List Sg) : (xs.map (castG nums)).map (·.s) = xs.map (·.s) := by
  rw [List.map_map]
  apply List.map_congr_left
  intro x _
  unfold castG; simp only [Function.comp]; split <;> rfl
theorem rowT_len {ts : List (List UInt8)} (h : ∀ t ∈ ts, t.length ≤ 70) : (rowT ts).length ≤ 71 * ts.length := by
  unfold rowT; split
  · simp
  · exact joinT_len ts h
theorem textBack_runs {v : Value} {xs : List Sg} (hr : GRow h v xs) (hok : ∀ x ∈ xs, okG x) (hl : xs.length ≤ 3518437208832) : Runs X ⟨f, []⟩ 6 [v] h (.bool true) h := by
  refine Runs_of rfl f6_is ?_
  obtain ⟨aw, cw, rfl⟩ := hr.form
  simp only [f6r0, f6r1, f6r2, f6r3, f6r4, f6r5, f6r6, f6r7, f6r8, f6r9, f6b]
  have hsz : h.size ≤ h.size := Nat.le_refl _
  repeat' (first
 | refine za ?_ | refine zb ?_ | refine zc ?_ | refine zd ?_ | refine ze ?_ | refine zf ?_ | refine zg ?_ | refine zh ?_ | (refine zi ?_; try refine RgD_plain rfl ?_) | refine w_drawn rfl ?_ | refine zj ?_ | refine zl ?_
 | ((first | apply zs | (apply zt; (focus rfl)) | (apply zu; (focus rfl)) | (apply zv; (focus rfl)) | apply zx | apply zy | apply zB | apply zC | apply zD | apply zE | apply zF); (focus ((conv => lhs; simp (disch := omega) [-env0_get, bound, List.getElem?_cons_zero, List.getElem?_cons_succ, odt, odf, oip, oin, obt, obf, ont, onf, wrapI, owu, ow8, ow32, otd, oe0, oe1, oe2, oe3, oe4, oe5, oe6, otn, ot1, ot2, ot4]); first | done | rfl)); first | apply zk | (apply zn; (focus rfl); try (focus (first | rfl | (simp; done)))) | (apply zo; (focus rfl)) | apply gv_u | apply gv_tt | apply gv_ff | apply gv_ft | apply gv_tf | (apply gv_split <;> intro hc <;> try simp only [decide_eq_true_eq, decide_eq_false_iff_not, beq_iff_eq, beq_eq_false_iff_ne, bne_iff_ne, bne_eq_false_iff_eq, Bool.not_true, Bool.not_false, ne_eq] at hc))
 | (simp (disch := omega) only [thenQ_normal, thenQ_exit, thenQ_ret, blockQ_normal, blockQ_ret, blockQ_exit_same, blockQ_exit_ne]))
  (apply zW; (focus ((conv => lhs; simp (disch := omega) [-env0_get, bound, List.getElem?_cons_zero, List.getElem?_cons_succ, odt, odf, oip, oin, obt, obf, ont, onf, wrapI, owu, ow8, ow32, otd, oe0, oe1, oe2, oe3, oe4, oe5, oe6, otn, ot1, ot2, ot4]); first | done | rfl)); (focus exact (spans18_R hr hl (Nat.le_refl _)))); intro v1 h1 q1
  obtain ⟨k1, r1⟩ := q1
  have s1 := k1.1
  have hr1 := hr.keepB k1 (.inl rfl)
  by_cases hbig : 50 < xs.length
  · repeat' (first
 | refine za ?_ | refine zb ?_ | refine zc ?_ | refine zd ?_ | refine ze ?_ | refine zf ?_ | refine zg ?_ | refine zh ?_ | (refine zi ?_; try refine RgD_plain rfl ?_) | refine w_drawn rfl ?_ | refine zj ?_ | refine zl ?_
 | ((first | apply zs | (apply zt; (focus rfl)) | (apply zu; (focus rfl)) | (apply zv; (focus rfl)) | apply zw | apply zx | apply zy | apply zB | apply zC | apply zD | apply zE | apply zF); (focus ((conv => lhs; simp (disch := omega) [-env0_get, bound, List.getElem?_cons_zero, List.getElem?_cons_succ, odt, odf, oip, oin, obt, obf, ont, onf, wrapI, owu, ow8, ow32, otd, oe0, oe1, oe2, oe3, oe4, oe5, oe6, otn, ot1, ot2, ot4]); first | done | rfl)); first | apply zk | (apply zn; (focus rfl); try (focus (first | rfl | (simp; done)))) | (apply zo; (focus rfl)) | apply gv_u | apply gv_tt | apply gv_ff | apply gv_ft | apply gv_tf | (apply gv_split <;> intro hc <;> try simp only [decide_eq_true_eq, decide_eq_false_iff_not, beq_iff_eq, beq_eq_false_iff_ne, bne_iff_ne, bne_eq_false_iff_eq, Bool.not_true, Bool.not_false, ne_eq] at hc) | exact alive18_runs)
 | (simp (disch := omega) only [thenQ_normal, thenQ_exit, thenQ_ret, blockQ_normal, blockQ_ret, blockQ_exit_same, blockQ_exit_ne]))
  have c0 := fun f => sorted2_runs (f := f) r1 (by simp; omega)
  cases hsd : sortedFrom none (xs.map (·.s)) with
  | false =>
    rw [hsd] at c0
    repeat' (first
 | refine za ?_ | refine zb ?_ | refine zc ?_ | refine zd ?_ | refine ze ?_ | refine zf ?_ | refine zg ?_ | refine zh ?_ | (refine zi ?_; try refine RgD_plain rfl ?_) | refine w_drawn rfl ?_ | refine zj ?_ | refine zl ?_
 | ((first | apply zs | (apply zt; (focus rfl)) | (apply zu; (focus rfl)) | (apply zv; (focus rfl)) | apply zw | apply zx | apply zy | apply zB | apply zC | apply zD | apply zE | apply zF); (focus ((conv => lhs; simp (disch := omega) [-env0_get, bound, List.getElem?_cons_zero, List.getElem?_cons_succ, odt, odf, oip, oin, obt, obf, ont, onf, wrapI, owu, ow8, ow32, otd, oe0, oe1, oe2, oe3, oe4, oe5, oe6, otn, ot1, ot2, ot4]); first | done | rfl)); first | apply zk | (apply zn; (focus rfl); try (focus (first | rfl | (simp; done)))) | (apply zo; (focus rfl)) | apply gv_u | apply gv_tt | apply gv_ff | apply gv_ft | apply gv_tf | (apply gv_split <;> intro hc <;> try simp only [decide_eq_true_eq, decide_eq_false_iff_not, beq_iff_eq, beq_eq_false_iff_ne, bne_iff_ne, bne_eq_false_iff_eq, Bool.not_true, Bool.not_false, ne_eq] at hc) | exact (c0 _) | exact alive18_runs)
 | (simp (disch := omega) only [thenQ_normal, thenQ_exit, thenQ_ret, blockQ_normal, blockQ_ret, blockQ_exit_same, blockQ_exit_ne]))
  | true =>
    rw [hsd] at c0
    have c1 := fun f => segsT_runs (f := f) hr1 (by omega) hok
    have c2 := fun f => spansT_runs (f := f) r1 (by simp; omega) (by intro x hx; obtain ⟨y, hy, rfl⟩ := List.mem_map.1 hx; exact (hok y hy).1)
    have t1 : (rowT (xs.map (elT true))).length ≤ 3550 := by
      have := rowT_len (ts := xs.map (elT true)) (by intro t ht; obtain ⟨x, hx, rfl⟩ := List.mem_map.1 ht; exact elT_len (hok x hx))
      simp at this ⊢; omega
    have t2 : (rowT (xs.map (elT false))).length ≤ 3550 := by
      have := rowT_len (ts := xs.map (elT false)) (by intro t ht; obtain ⟨x, hx, rfl⟩ := List.mem_map.1 ht; exact elT_len (hok x hx))
      simp at this ⊢; omega
    have g1 := fun lo => rowR_read (nums := true) (lo := lo) hok hsd (by omega)
    have g2 := fun lo => rowR_read (nums := false) (lo := lo) hok hsd (by omega)
    rw [show rowT (xs.map segT) = rowT (xs.map (elT true)) from rfl] at c1
    rw [show rowT ((xs.map (·.s)).map boundT) = rowT (xs.map (elT false)) by rw [List.map_map]; rfl] at c2
    rw [castG_true] at g1
    obtain ⟨S, hS⟩ : ∃ S, rowT (xs.map (elT true)) = S := ⟨_, rfl⟩
    obtain ⟨T, hT⟩ : ∃ T, rowT (xs.map (elT false)) = T := ⟨_, rfl⟩
    rw [hS] at c1 t1 g1
    rw [hT] at c2 t2 g2
    repeat' (first
 | refine za ?_ | refine zb ?_ | refine zc ?_ | refine zd ?_ | refine ze ?_ | refine zf ?_ | refine zg ?_ | refine zh ?_ | (refine zi ?_; try refine RgD_plain rfl ?_) | refine w_drawn rfl ?_ | refine zj ?_ | refine zl ?_
 | ((first | apply zs | (apply zt; (focus rfl)) | (apply zu; (focus rfl)) | (apply zv; (focus rfl)) | apply zw | apply zx | apply zy | apply zB | apply zC | apply zD | apply zE | apply zF); (focus ((conv => lhs; simp (disch := omega) [-env0_get, bound, List.getElem?_cons_zero, List.getElem?_cons_succ, odt, odf, oip, oin, obt, obf, ont, onf, wrapI, owu, ow8, ow32, otd, oe0, oe1, oe2, oe3, oe4, oe5, oe6, otn, ot1, ot2, ot4]); first | done | rfl)); first | apply zk | (apply zn; (focus rfl); try (focus (first | rfl | (simp; done)))) | (apply zo; (focus rfl)) | apply gv_u | apply gv_tt | apply gv_ff | apply gv_ft | apply gv_tf | (apply gv_split <;> intro hc <;> try simp only [decide_eq_true_eq, decide_eq_false_iff_not, beq_iff_eq, beq_eq_false_iff_ne, bne_iff_ne, bne_eq_false_iff_eq, Bool.not_true, Bool.not_false, ne_eq] at hc) | exact (c0 _) | exact (c1 _) | exact (c2 _))
 | (simp (disch := omega) only [thenQ_normal, thenQ_exit, thenQ_ret, blockQ_normal, blockQ_ret, blockQ_exit_same, blockQ_exit_ne]))
    (apply zW; (focus ((conv => lhs; simp (disch := omega) [-env0_get, bound, List.getElem?_cons_zero, List.getElem?_cons_succ, odt, odf, oip, oin, obt, obf, ont, onf, wrapI, owu, ow8, ow32, otd, oe0, oe1, oe2, oe3, oe4, oe5, oe6, otn, ot1, ot2, ot4]); first | done | rfl)); (focus exact (readG_R (l := S) (by omega) (by omega)))); intro v2 h2 q2
    obtain ⟨w2, rfl, k2, r2⟩ := q2
    rw [g1] at r2
    simp only [g1]
    have s2 := k2.1
    have hr2 := hr1.keepB k2 (.inl rfl)
    have r12 := r1.keepB k2 (.inl rfl)
    repeat' (first
 | refine za ?_ | refine zb ?_ | refine zc ?_ | refine zd ?_ | refine ze ?_ | refine zf ?_ | refine zg ?_ | refine zh ?_ | (refine zi ?_; try refine RgD_plain rfl ?_) | refine w_drawn rfl ?_ | refine zj ?_ | refine zl ?_
 | ((first | apply zs | (apply zt; (focus rfl)) | (apply zu; (focus rfl)) | (apply zv; (focus rfl)) | apply zx | apply zy | apply zB | apply zC | apply zD | apply zE | apply zF); (focus ((conv => lhs; simp (disch := omega) [-env0_get, bound, List.getElem?_cons_zero, List.getElem?_cons_succ, odt, odf, oip, oin, obt, obf, ont, onf, wrapI, owu, ow8, ow32, otd, oe0, oe1, oe2, oe3, oe4, oe5, oe6, otn, ot1, ot2, ot4]); first | done | rfl)); first | apply zk | (apply zn; (focus rfl); try (focus (first | rfl | (simp; done)))) | (apply zo; (focus rfl)) | apply gv_u | apply gv_tt | apply gv_ff | apply gv_ft | apply gv_tf | (apply gv_split <;> intro hc <;> try simp only [decide_eq_true_eq, decide_eq_false_iff_not, beq_iff_eq, beq_eq_false_iff_ne, bne_iff_ne, bne_eq_false_iff_eq, Bool.not_true, Bool.not_false, ne_eq] at hc))
 | (simp (disch := omega) only [thenQ_normal, thenQ_exit, thenQ_ret, blockQ_normal, blockQ_ret, blockQ_exit_same, blockQ_exit_ne]))
    (apply zW; (focus ((conv => lhs; simp (disch := omega) [-env0_get, bound, List.getElem?_cons_zero, List.getElem?_cons_succ, odt, odf, oip, oin, obt, obf, ont, onf, wrapI, owu, ow8, ow32, otd, oe0, oe1, oe2, oe3, oe4, oe5, oe6, otn, ot1, ot2, ot4]); first | done | rfl)); (focus exact (readS_R (l := T) (by omega) (by omega)))); intro v3 h3 q3
    obtain ⟨w3, rfl, k3, r3⟩ := q3
    rw [g2] at r3
    simp only [g2]
    rw [castG_s] at r3
    have s3 := k3.1
    have hr3 := hr2.keepB k3 (.inl rfl)
    have r13 := r12.keepB k3 (.inl rfl)
    have r23 := r2.keepB k3 (.inl rfl)
    repeat' (first
 | refine za ?_ | refine zb ?_ | refine zc ?_ | refine zd ?_ | refine ze ?_ | refine zf ?_ | refine zg ?_ | refine zh ?_ | (refine zi ?_; try refine RgD_plain rfl ?_) | refine w_drawn rfl ?_ | refine zj ?_ | refine zl ?_
 | ((first | apply zs | (apply zt; (focus rfl)) | (apply zu; (focus rfl)) | (apply zv; (focus rfl)) | apply zx | apply zy | apply zB | apply zC | apply zD | apply zE | apply zF); (focus ((conv => lhs; simp (disch := omega) [-env0_get, bound, List.getElem?_cons_zero, List.getElem?_cons_succ, odt, odf, oip, oin, obt, obf, ont, onf, wrapI, owu, ow8, ow32, otd, oe0, oe1, oe2, oe3, oe4, oe5, oe6, otn, ot1, ot2, ot4]); first | done | rfl)); first | apply zk | (apply zn; (focus rfl); try (focus (first | rfl | (simp; done)))) | (apply zo; (focus rfl)) | apply gv_u | apply gv_tt | apply gv_ff | apply gv_ft | apply gv_tf | (apply gv_split <;> intro hc <;> try simp only [decide_eq_true_eq, decide_eq_false_iff_not, beq_iff_eq, beq_eq_false_iff_ne, bne_iff_ne, bne_eq_false_iff_eq, Bool.not_true, Bool.not_false, ne_eq] at hc))
 | (simp (disch := omega) only [thenQ_normal, thenQ_exit, thenQ_ret, blockQ_normal, blockQ_ret, blockQ_exit_same, blockQ_exit_ne]))
    (apply zW; (focus ((conv => lhs; simp (disch := omega) [-env0_get, bound, List.getElem?_cons_zero, List.getElem?_cons_succ, odt, odf, oip, oin, obt, obf, ont, onf, wrapI, owu, ow8, ow32, otd, oe0, oe1, oe2, oe3, oe4, oe5, oe6, otn, ot1, ot2, ot4]); first | done | rfl)); (focus exact (looseG_R (l := S) (by omega) (by omega)))); intro v4 h4 q4
    obtain ⟨w4, rfl, k4, r4⟩ := q4
    rw [g1] at r4
    simp only [g1]
    have s4 := k4.1
    have hr4 := hr3.keepB k4 (.inl rfl)
    have r14 := r13.keepB k4 (.inl rfl)
    have r24 := r23.keepB k4 (.inl rfl)
    have r34 := r3.keepB k4 (.inl rfl)
    repeat' (first
 | refine za ?_ | refine zb ?_ | refine zc ?_ | refine zd ?_ | refine ze ?_ | refine zf ?_ | refine zg ?_ | refine zh ?_ | (refine zi ?_; try refine RgD_plain rfl ?_) | refine w_drawn rfl ?_ | refine zj ?_ | refine zl ?_
 | ((first | apply zs | (apply zt; (focus rfl)) | (apply zu; (focus rfl)) | (apply zv; (focus rfl)) | apply zx | apply zy | apply zB | apply zC | apply zD | apply zE | apply zF); (focus ((conv => lhs; simp (disch := omega) [-env0_get, bound, List.getElem?_cons_zero, List.getElem?_cons_succ, odt, odf, oip, oin, obt, obf, ont, onf, wrapI, owu, ow8, ow32, otd, oe0, oe1, oe2, oe3, oe4, oe5, oe6, otn, ot1, ot2, ot4]); first | done | rfl)); first | apply zk | (apply zn; (focus rfl); try (focus (first | rfl | (simp; done)))) | (apply zo; (focus rfl)) | apply gv_u | apply gv_tt | apply gv_ff | apply gv_ft | apply gv_tf | (apply gv_split <;> intro hc <;> try simp only [decide_eq_true_eq, decide_eq_false_iff_not, beq_iff_eq, beq_eq_false_iff_ne, bne_iff_ne, bne_eq_false_iff_eq, Bool.not_true, Bool.not_false, ne_eq] at hc))
 | (simp (disch := omega) only [thenQ_normal, thenQ_exit, thenQ_ret, blockQ_normal, blockQ_ret, blockQ_exit_same, blockQ_exit_ne]))
    (apply zW; (focus ((conv => lhs; simp (disch := omega) [-env0_get, bound, List.getElem?_cons_zero, List.getElem?_cons_succ, odt, odf, oip, oin, obt, obf, ont, onf, wrapI, owu, ow8, ow32, otd, oe0, oe1, oe2, oe3, oe4, oe5, oe6, otn, ot1, ot2, ot4]); first | done | rfl)); (focus exact (looseS_R (l := T) (by omega) (by omega)))); intro v5 h5 q5
    obtain ⟨w5, rfl, k5, r5⟩ := q5
    rw [g2] at r5
    simp only [g2]
    rw [castG_s] at r5
    have hr5 := hr4.keepB k5 (.inl rfl)
    have r15 := r14.keepB k5 (.inl rfl)
    have r25 := r24.keepB k5 (.inl rfl)
    have r35 := r34.keepB k5 (.inl rfl)
    have r45 := r4.keepB k5 (.inl rfl)
    have e1 := fun f => same14_runs (f := f) r25 hr5 (by simp only; omega) (by omega)
    have e2 := fun f => same_runs (f := f) r35 r15 (by simp; omega) (by simp; omega)
    have e3 := fun f => same14_runs (f := f) r45 hr5 (by simp only; omega) (by omega)
    have e4 := fun f => same_runs (f := f) r5 r15 (by simp; omega) (by simp; omega)
    simp only [decide_true] at e1 e2 e3 e4
    repeat' (first
 | refine za ?_ | refine zb ?_ | refine zc ?_ | refine zd ?_ | refine ze ?_ | refine zf ?_ | refine zg ?_ | refine zh ?_ | (refine zi ?_; try refine RgD_plain rfl ?_) | refine w_drawn rfl ?_ | refine zj ?_ | refine zl ?_
 | ((first | apply zs | (apply zt; (focus rfl)) | (apply zu; (focus rfl)) | (apply zv; (focus rfl)) | apply zw | apply zx | apply zy | apply zB | apply zC | apply zD | apply zE | apply zF); (focus ((conv => lhs; simp (disch := omega) [-env0_get, bound, List.getElem?_cons_zero, List.getElem?_cons_succ, odt, odf, oip, oin, obt, obf, ont, onf, wrapI, owu, ow8, ow32, otd, oe0, oe1, oe2, oe3, oe4, oe5, oe6, otn, ot1, ot2, ot4]); first | done | rfl)); first | apply zk | (apply zn; (focus rfl); try (focus (first | rfl | (simp; done)))) | (apply zo; (focus rfl)) | apply gv_u | apply gv_tt | apply gv_ff | apply gv_ft | apply gv_tf | (apply gv_split <;> intro hc <;> try simp only [decide_eq_true_eq, decide_eq_false_iff_not, beq_iff_eq, beq_eq_false_iff_ne, bne_iff_ne, bne_eq_false_iff_eq, Bool.not_true, Bool.not_false, ne_eq] at hc) | exact alive18_runs | exact (e1 _) | exact (e2 _) | exact (e3 _) | exact (e4 _))
 | (simp (disch := omega) only [thenQ_normal, thenQ_exit, thenQ_ret, blockQ_normal, blockQ_ret, blockQ_exit_same, blockQ_exit_ne]))
end Go.Proofs.Ytlgbeekhaoiggaa
end
