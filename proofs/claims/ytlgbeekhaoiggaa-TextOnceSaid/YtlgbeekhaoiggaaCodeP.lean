import Derived.Test.YtlgbeekhaoiggaaCodeO
set_option linter.all false
section
namespace Go.Proofs.Ytlgbeekhaoiggaa
open Go.AM
theorem dval_ch {b : UInt8} (h : isDig b) : UInt8.ofNat (48 + dval b) = b := by
  obtain ⟨h1, h2⟩ := h
  apply UInt8.toNat_inj.1
  unfold dval; simp; omega
theorem numV_pos : ∀ (ds : List UInt8), (∀ b ∈ ds, isDig b) → ds ≠ [] → ds.getLast? ≠ some 48 → 0 < numV (ds.map dval)
  | [], _, h, _ => absurd rfl h
  | [b], hd, _, hl => by
    have hb := hd b (by simp)
    simp at hl
    have : b.toNat ≠ 48 := fun e => hl (UInt8.toNat_inj.1 (by rw [e]; rfl))
    obtain ⟨h1, h2⟩ := hb
    simp [numV, dval]; omega
  | b :: c :: r, hd, _, hl => by
    have := numV_pos (c :: r) (fun x hx => hd x (by simp at hx ⊢; exact .inr hx)) (by simp) (by simpa using hl)
    simp only [List.map_cons, numV] at this ⊢; omega
theorem digR_num : ∀ (ds : List UInt8), (∀ b ∈ ds, isDig b) → ds ≠ [] → (ds.getLast? ≠ some 48 ∨ ds = [48]) → digR (numV (ds.map dval)) = ds
  | [], _, h, _ => absurd rfl h
  | [b], hd, _, _ => by
    have hb := hd b (by simp)
    have h9 : dval b < 10 := by obtain ⟨h1, h2⟩ := hb; unfold dval; omega
    simp only [List.map_cons, List.map_nil, numV, Nat.mul_zero, Nat.add_zero]
    rw [digR_small h9, dval_ch hb]
  | b :: c :: r, hd, _, hl => by
    have hb := hd b (by simp)
    have h9 : dval b < 10 := by obtain ⟨h1, h2⟩ := hb; unfold dval; omega
    have hl' : (c :: r).getLast? ≠ some 48 := by rcases hl with q | q; simpa using q; simp at q
    have hd' : ∀ x ∈ c :: r, isDig x := fun x hx => hd x (by simp at hx ⊢; exact .inr hx)
    have hp := numV_pos (c :: r) hd' (by simp) hl'
    have ih := digR_num (c :: r) hd' (by simp) (.inl hl')
    have e : numV ((b :: c :: r).map dval) = dval b + 10 * numV ((c :: r).map dval) := rfl
    rw [e]
    generalize numV ((c :: r).map dval) = m at hp ih
    rw [digR_big (by omega), show (dval b + 10 * m) % 10 = dval b by omega, show (dval b + 10 * m) / 10 = m by omega, ih, dval_ch hb]
theorem digOk_digR {neg : Prop} [Decidable neg] {t : List UInt8} (h : digOk neg t) : t = (digR (hn 0 t)).reverse ∧ (neg → hn 0 t ≠ 0) := by
  obtain ⟨h1, h2, h3, h4⟩ := h
  have hd : ∀ b ∈ t.reverse, isDig b := fun b hb => h1 b (by simpa using hb)
  have hl : t.reverse.getLast? = t.head? := by simp
  have hor : t.reverse.getLast? ≠ some 48 ∨ t.reverse = [48] := by
    rw [hl]
    by_cases hh : t.head? = some 48
    · right
      have hln : ¬ t.length > 1 := fun q => h3 ⟨hh, .inl q⟩
      rcases t with _ | ⟨a, _ | ⟨b, r⟩⟩
      · exact absurd rfl h2
      · simp at hh; subst hh; rfl
      · simp at hln
    · exact .inl hh
  have e := digR_num t.reverse hd (by simpa using h2) hor
  rw [List.map_reverse, ← hn_numV] at e
  refine ⟨by rw [e, List.reverse_reverse], fun hneg h0 => ?_⟩
  have hne : t.head? ≠ some 48 := fun q => h3 ⟨q, .inr hneg⟩
  have := numV_pos t.reverse hd (by simpa using h2) (by rw [hl]; exact hne)
  rw [List.map_reverse, ← hn_numV] at this
  omega
theorem parseN_satT {t : List UInt8} {v : Int} (h : parseN t = some v) : t = satT v ∧ okI v := by
  unfold parseN at h
  split at h
  · rename_i hh
    split at h
    · rename_i hd
      injection h with h; subst h
      obtain ⟨e, hne⟩ := digOk_digR hd
      have hle : hn 0 t.tail ≤ 9223372036854775808 := by have := hd.2.2.2; simpa [most] using this
      have hp := hne trivial
      refine ⟨?_, by unfold okI; omega⟩
      unfold satT
      rw [if_pos (by omega)]
      rw [show (-(hn 0 t.tail : Int)).natAbs = hn 0 t.tail by omega, ← e]
      rcases t with _ | ⟨a, r⟩
      · simp at hh
      · simp at hh; subst hh; rfl
    · cases h
  · split at h
    · rename_i hd
      injection h with h; subst h
      obtain ⟨e, _⟩ := digOk_digR hd
      have hle : hn 0 t ≤ 9223372036854775807 := by have := hd.2.2.2; simpa [most] using this
      refine ⟨?_, by unfold okI; omega⟩
      unfold satT
      rw [if_neg (by omega)]
      simpa using e
    · cases h
end Go.Proofs.Ytlgbeekhaoiggaa
end

section
namespace Go.Proofs.Ytlgbeekhaoiggaa
open Go.AM
theorem longest_some {α : Type} {p : List UInt8 → Option α} {l : List UInt8} {x : α} {k : Nat} : ∀ {n : Nat}, longest p l n = some (x, k) → p (l.take k) = some x ∧ 1 ≤ k ∧ k ≤ n
  | 0, h => by simp [longest] at h
  | n + 1, h => by
    rw [longest] at h
    split at h
    · rename_i y hy
      injection h with h; injection h with h1 h2
      subst h1 h2
      exact ⟨hy, by omega, by omega⟩
    · obtain ⟨q1, q2, q3⟩ := longest_some h
      exact ⟨q1, q2, by omega⟩
theorem satRead_text {l : List UInt8} (h : (satRead l).2 ≠ 0) : l.take (satRead l).2 = satT (satRead l).1 ∧ okI (satRead l).1 := by
  have e := satRead_longest l
  rw [if_neg h] at e
  exact parseN_satT (longest_some (x := (satRead l).1) (k := (satRead l).2) e).1
theorem plainR_text {l : List UInt8} (h : (plainR l).2 ≠ 0) : l.take (plainR l).2 = satT (plainR l).1 ∧ okI (plainR l).1 ∧ (plainR l).1 ≠ -9223372036854775808 := by
  unfold plainR at h ⊢
  split
  · rename_i hc
    rw [if_pos hc] at h
    simp only at h ⊢
    unfold cutR at h hc ⊢
    cases hl : longest parseC l (min 20 l.length) with
    | none => rw [hl] at h; simp at h
    | some r =>
      obtain ⟨c, k⟩ := r
      rw [hl] at hc
      simp only [Option.getD_some] at hc ⊢
      have hp := (longest_some hl).1
      unfold parseC at hp
      split at hp
      · injection hp with hp; subst hp; simp at hc
      · split at hp
        · injection hp with hp; subst hp; simp at hc
        · split at hp
          · rename_i n hn
            split at hp
            · cases hp
            · rename_i hne
              injection hp with hp; subst hp
              obtain ⟨q1, q2⟩ := parseN_satT hn
              exact ⟨q1, q2, hne⟩
          · cases hp
  · rename_i hc; rw [if_neg hc] at h; simp at h
theorem pre_step {l t w : List UInt8} {i k : Nat} (h : l.take i = t) (hw : (l.drop i).take k = w) : l.take (i + k) = t ++ w := by rw [List.take_add, h, hw]
theorem isAt_take {l w : List UInt8} {i : Nat} (h : isAt l i w = true) : (l.drop i).take w.length = w := of_decide_eq_true h
theorem canon_0 {a : Int} (h : a ≠ -9223372036854775808) : canon (0, a) = (0, a) := (canon_mid (by unfold negC; omega) (by omega)).1
theorem cutT_mid {a : Int} (h : a ≠ -9223372036854775808) : cutT (0, a) = satT a := by unfold cutT; rw [canon_0 h]; simp
theorem endN_text {l w : List UInt8} {i j : Nat} {c : Int × Int} (hw : w.length = 4) (h : endN false l i w = (c, some j)) : (c = (0, 0) ∧ isAt l i w = true ∧ j = i + 4 ∧ (l.drop i).take (j - i) = w) ∨ (isAt l i w = false ∧ ∃ a, c = (1, a) ∧ i < j ∧ (l.drop i).take (j - i) = satT a ∧ okI a ∧ a ≠ -9223372036854775808) := by
  unfold endN at h
  by_cases hm : isAt l i w = true
  · rw [if_pos hm] at h
    injection h with h1 h2
    injection h2 with h2
    subst h1 h2
    refine .inl ⟨rfl, hm, rfl, ?_⟩
    have := isAt_take hm
    rw [hw] at this
    rw [Nat.add_sub_cancel_left]; exact this
  · rw [if_neg hm] at h
    simp only [Bool.false_eq_true, if_false] at h
    by_cases hz : (plainR (l.drop i)).2 = 0
    · rw [if_pos hz] at h; injection h with _ h2; cases h2
    · rw [if_neg hz] at h
      injection h with h1 h2
      injection h2 with h2
      subst h1 h2
      obtain ⟨q1, q2, q3⟩ := plainR_text hz
      exact .inr ⟨by simpa using hm, _, rfl, by omega, by rw [Nat.add_sub_cancel_left]; exact q1, q2, q3⟩
theorem spanOf_ok {p q : Int × Int} (hp : canon p = p) (hq : canon q = q) (h : (spanOf p q).2 = 0) : (spanOf p q).1 = ⟨p.1, p.2, q.1, q.2⟩ ∧ rightS p.1 p.2 q.1 q.2 = true := by
  unfold spanOf at h ⊢
  rw [hp, hq] at h ⊢
  split
  · rename_i hr; exact ⟨rfl, hr⟩
  · rename_i hr; rw [if_neg hr] at h; simp at h
theorem readN_join {l tl th : List UInt8} {b : UInt8} {LO HI : Int × Int} {s : Sp} {j k : Nat} (h0 : (l.drop 0).take 1 = [b]) (hl : (l.drop 1).take (j - 1) = tl) (hj : 1 ≤ j) (h44 : (l.drop j).take 1 = [44]) (hh : (l.drop (j + 1)).take (k - (j + 1)) = th) (hk : j + 1 ≤ k) (h41 : (l.drop k).take 1 = [41])
    (hs : s = ⟨LO.1, LO.2, HI.1, HI.2⟩) (hr : rightS LO.1 LO.2 HI.1 HI.2 = true) (hb : (if LO.1 = -1 ∧ LO.2 = 0 then [40] else [91]) = [b]) (cl : cutT LO = tl) (ch : cutT HI = th) : boundT s = l.take (k + 1) := by
  have p0 : l.take 1 = [b] := by simpa using h0
  have p1 := pre_step p0 hl
  rw [show 1 + (j - 1) = j by omega] at p1
  have p2 := pre_step (pre_step p1 h44) hh
  rw [show j + 1 + (k - (j + 1)) = k by omega] at p2
  have p3 := pre_step p2 h41
  rw [p3, hs]
  unfold boundT
  simp only [hr, if_true]
  rw [hb, cl, ch]
theorem readN_text {l : List UInt8} {s : Sp} {n : Nat} (h : readN false l = (s, n, 0)) : boundT s = l.take n ∧ okS s := by
  unfold readN at h
  split at h
  · simp [badN] at h
  rename_i h0
  have hsk : ∀ i, sk false l i = i := fun i => by unfold sk; rw [if_neg (by simp)]
  rw [hsk] at h
  unfold readA at h
  split at h
  · simp [badN] at h
  rename_i hop
  have hop' : isAt l 0 [40] = isAt l 1 minf := by simpa using hop
  rcases he : endN false l 1 minf with ⟨c, _ | j⟩
  · rw [he] at h; simp [badN] at h
  rw [he] at h
  obtain ⟨low, hlow⟩ : ∃ low, (if c.1 = 1 ∧ isAt l 0 [40] = false then (2, c.2) else c) = low := ⟨_, rfl⟩
  simp only [hsk, hlow] at h
  unfold readB at h
  split at h
  rotate_left
  · simp [badN] at h
  rename_i h44
  rw [hsk] at h
  unfold readC at h
  rcases hf : endN false l (j + 1) pinf with ⟨d, _ | k⟩
  · rw [hf] at h; simp [badN] at h
  rw [hf] at h
  simp only [hsk] at h
  unfold readD at h
  simp only [Bool.false_and, true_and, Bool.false_eq_true, and_false, if_false] at h
  split at h
  · simp [badN] at h
  rename_i h41
  have h41 : isAt l k [41] = true := by cases q : isAt l k [41] <;> simp [q] at h41 ⊢
  split at h
  rotate_left
  · rename_i hz; injection h with _ h; injection h with _ h; exact absurd h hz
  rename_i hz
  injection h with hs hn
  injection hn with hn _
  subst hn
  have t44 := isAt_take h44
  have t41 := isAt_take h41
  simp only [List.length_cons, List.length_nil, Nat.zero_add] at t44 t41
  -- its lower end
  have hL : ∃ (LO : Int × Int) (b : UInt8) (tl : List UInt8), (l.drop 0).take 1 = [b] ∧ (l.drop 1).take (j - 1) = tl ∧ 1 ≤ j ∧ lowC low.1 low.2 = LO ∧ (0 ≤ low.1 ∧ low.1 ≤ 2) ∧ canon LO = LO ∧ (if LO.1 = -1 ∧ LO.2 = 0 then [40] else [91]) = [b] ∧ cutT LO = tl ∧ okI LO.1 ∧ okI LO.2 := by
    rcases endN_text rfl he with ⟨rfl, hm, rfl, ht⟩ | ⟨hm, a, rfl, hj, ht, hok, hne⟩
    · rw [hm] at hop'
      have t0 := isAt_take hop'
      have e : low = (0, 0) := by rw [← hlow]; rfl
      subst e
      exact ⟨(-1, 0), 40, minf, t0, ht, by omega, rfl, by decide, rfl, rfl, rfl, by unfold okI; simp, by unfold okI; simp⟩
    · rw [hm] at hop'
      have h91 : isAt l 0 [91] = true := by cases q : isAt l 0 [91]; exact absurd ⟨hop', q⟩ h0; rfl
      have t0 := isAt_take h91
      have e : low = (2, a) := by rw [← hlow, hop']; rfl
      subst e
      refine ⟨(0, a), 91, satT a, t0, ht, by omega, ?_, by simp, canon_0 hne, by simp, cutT_mid hne, by unfold okI; simp, hok⟩
      unfold lowC; simp [canon_0 hne]
  have hH : ∃ (HI : Int × Int) (th : List UInt8), (l.drop (j + 1)).take (k - (j + 1)) = th ∧ j + 1 ≤ k ∧ highC d.1 d.2 = HI ∧ (0 ≤ d.1 ∧ d.1 ≤ 2) ∧ canon HI = HI ∧ cutT HI = th ∧ okI HI.1 ∧ okI HI.2 := by
    rcases endN_text rfl hf with ⟨rfl, hm, rfl, ht⟩ | ⟨hm, a, rfl, hj, ht, hok, hne⟩
    · exact ⟨(1, 0), pinf, ht, by omega, rfl, by decide, rfl, rfl, by unfold okI; simp, by unfold okI; simp⟩
    · refine ⟨(0, a), satT a, ht, by omega, ?_, by simp, canon_0 hne, cutT_mid hne, by unfold okI; simp, hok⟩
      unfold highC; simp [canon_0 hne]
  obtain ⟨LO, b, tl, a1, a2, a3, a4, a5, a6, a7, a8, a9, a10⟩ := hL
  obtain ⟨HI, th, b2, b3, b4, b5, b6, b8, b9, b10⟩ := hH
  have hsp : spanB low.1 low.2 d.1 d.2 = spanOf LO HI := by unfold spanB; rw [if_pos ⟨a5, b5⟩, a4, b4]
  rw [hsp] at hz hs
  obtain ⟨c1, c2⟩ := spanOf_ok a6 b6 hz
  rw [c1] at hs
  refine ⟨readN_join a1 a2 a3 t44 b2 b3 t41 hs.symm c2 a7 a8 b8, ?_⟩
  rw [← hs]
  exact ⟨a9, a10, b9, b10⟩
end Go.Proofs.Ytlgbeekhaoiggaa
end

section
namespace Go.Proofs.Ytlgbeekhaoiggaa
open Go.AM
theorem oneN_text {nums : Bool} {l : List UInt8} {i p : Nat} {x : Sg} (hi : i ≤ l.length) (h : oneN nums false l i = (x, p, 0)) : i < p ∧ p ≤ l.length ∧ (l.drop i).take (p - i) = elT nums x ∧ okG x ∧ elT nums x ≠ [] := by
  obtain ⟨o1, o2⟩ := oneN_ok nums false hi
  rw [h] at o1 o2
  simp only at o1 o2
  have hlt := o2 trivial
  have hne : ∀ t, (l.drop i).take (p - i) = t → t ≠ [] := fun t ht e => by
    rw [e] at ht
    have := congrArg List.length ht
    simp at this; omega
  have main : (l.drop i).take (p - i) = elT nums x ∧ okG x := by
    rcases hr : readN false (l.drop i) with ⟨s, n, er⟩
    have hsk : ∀ i, sk false l i = i := fun i => by unfold sk; rw [if_neg (by simp)]
    unfold oneN at h
    rw [hr] at h
    simp only [hsk] at h
    split at h
    · rename_i hA
      injection h with h1 h2
      injection h2 with h2 h3
      subst h1 h2 h3
      obtain ⟨q1, q2⟩ := readN_text hr
      have hn : nums = false := by rcases hA with q | q; exact absurd rfl q; exact q
      subst hn
      refine ⟨?_, q2, by unfold okI; simp⟩
      rw [Nat.add_sub_cancel_left, ← q1]; rfl
    · rename_i hA
      have he : er = 0 := Classical.byContradiction fun q => hA (.inl q)
      have hn : nums = true := by cases nums; exact absurd (.inr rfl) hA; rfl
      subst he hn
      obtain ⟨q1, q2⟩ := readN_text hr
      split at h
      · injection h with _ h2; injection h2 with _ h3; cases h3
      rename_i hB
      have hB := isAt_take (by simpa using hB)
      simp only [List.length_cons, List.length_nil, Nat.zero_add] at hB
      split at h
      · injection h with _ h2; injection h2 with _ h3; cases h3
      rename_i hC
      obtain ⟨c1, c2⟩ := satRead_text hC
      injection h with h1 h2
      injection h2 with h2 h3
      subst h1 h2
      refine ⟨?_, q2, c2⟩
      have d1 : ((l.drop i).drop n).take 2 = [61, 62] := by rw [List.drop_drop]; exact hB
      have d2 : ((l.drop i).drop (n + 2)).take (satRead (l.drop (i + n + 2))).2 = satT (satRead (l.drop (i + n + 2))).1 := by rw [List.drop_drop, ← Nat.add_assoc]; exact c1
      have d3 := pre_step (pre_step q1.symm d1) d2
      rw [show i + n + 2 + (satRead (l.drop (i + n + 2))).2 - i = n + 2 + (satRead (l.drop (i + n + 2))).2 by omega, d3]
      have hb : boundT s ≠ [] := fun e => by
        unfold boundT at e
        split at e
        · simp at e
        · rename_i hr2
          unfold boundT at q1
          rw [if_neg hr2] at q1
          have := congrArg List.length q1
          obtain ⟨r1, r2, r3⟩ := readN_ok false (l.drop i)
          rw [hr] at r1 r2 r3
          simp only at r1 r2 r3
          have := r3 trivial
          simp at *; omega
      unfold elT segT
      simp only [if_true]
      rw [if_neg hb]
  exact ⟨hlt, o1, main.1, main.2, hne _ main.1⟩
theorem joinT_flat : ∀ (t : List UInt8) (ts : List (List UInt8)), joinT (t :: ts) = t ++ ts.flatMap (fun t => 59 :: t)
  | t, [] => by simp [joinT]
  | t, y :: r => by
    have := joinT_flat y r
    simp only [joinT, this, List.flatMap_cons, List.cons_append]
def partT (first : Bool) (ts : List (List UInt8)) : List UInt8 := if first then joinT ts else ts.flatMap fun t => 59 :: t
theorem rowE_text (nums : Bool) (l : List UInt8) : ∀ (n : Nat) (first : Bool) (i : Nat), l.length - i = n → i ≤ l.length → (rowE nums false l first i).2.2 = 0 →
    l.drop i = partT first ((rowE nums false l first i).1.map fun x => elT nums x.1) ∧ ∀ x ∈ (rowE nums false l first i).1, okG x.1 ∧ elT nums x.1 ≠ [] := by
  intro n
  induction n using Nat.strongRecOn with
  | _ n ih =>
    intro first i hn hil he0
    by_cases hi : i < l.length
    · by_cases hs : first = true ∨ isAt l i [59] = true
      · by_cases he : (oneN nums false l (begA first false l i)).2.2 = 0
        · obtain ⟨g1, g2, g3⟩ := rowE_go (nums := nums) hi hs he
          rw [g3] at he0 ⊢
          simp only at he0
          obtain ⟨i1, i2⟩ := ih (l.length - nxtA nums first false l i) (by omega) false (nxtA nums first false l i) rfl g2 he0
          obtain ⟨b1, b2⟩ := begA_ok first false hi
          rcases ho : oneN nums false l (begA first false l i) with ⟨x, p, er⟩
          rw [ho] at he; simp only at he; subst he
          obtain ⟨o1, o2, o3, o4, o5⟩ := oneN_text b1 ho
          have hnx : nxtA nums first false l i = p := by unfold nxtA; rw [ho]; unfold sk; rw [if_neg (by simp)]
          rw [hnx] at i1 i2 ⊢
          have hd : l.drop (begA first false l i) = elT nums x ++ l.drop p := by
            rw [← List.take_append_drop (p - begA first false l i) (l.drop (begA first false l i)), o3, List.drop_drop, show begA first false l i + (p - begA first false l i) = p by omega]
          refine ⟨?_, ?_⟩
          · rw [i1] at hd
            simp only [List.map_cons]
            cases first with
            | true =>
              have hb : begA true false l i = i := rfl
              rw [hb] at hd
              unfold partT at hd ⊢
              simp only [if_true, Bool.false_eq_true, if_false] at hd ⊢
              rw [joinT_flat]; exact hd
            | false =>
              have hb : begA false false l i = i + 1 := by unfold begA sk; simp
              rw [hb] at hd
              have h59 : isAt l i [59] = true := by rcases hs with q | q; cases q; exact q
              have t := isAt_take h59
              simp only [List.length_cons, List.length_nil, Nat.zero_add] at t
              have : l.drop i = 59 :: l.drop (i + 1) := by
                rw [← List.take_append_drop 1 (l.drop i), t, List.drop_drop]; rfl
              rw [this, hd]
              unfold partT
              simp
          · intro y hy
            rcases List.mem_cons.1 hy with rfl | q
            · exact ⟨o4, o5⟩
            · exact i2 y q
        · rw [rowE_bad hi hs he] at he0; exact absurd he0 he
      · have hf : first = false := by cases first <;> simp at hs ⊢
        have hs' : isAt l i [59] = false := by cases hq : isAt l i [59] <;> simp [hq] at hs ⊢
        subst hf
        rw [rowE_semi hi hs'] at he0; simp at he0
    · rw [rowE_end hi]
      refine ⟨?_, by simp⟩
      rw [List.drop_eq_nil_of_le (by omega)]
      cases first <;> simp [partT, joinT]
theorem rowR_text {nums : Bool} {l : List UInt8} {xs : List Sg} {p : Nat} (h : rowR nums false l = (xs, p, 0)) : rowT (xs.map (elT nums)) = l ∧ ∀ x ∈ xs, okG x := by
  unfold rowR at h
  split at h
  · injection h with _ h; injection h with _ h; cases h
  have h0 : sk false l 0 = 0 := by unfold sk; rw [if_neg (by simp)]
  rw [h0] at h
  split at h
  · rename_i hne
    injection h with _ h
    rw [h] at hne; simp at hne
  rename_i hz
  have hz : (rowE nums false l true 0).2.2 = 0 := Classical.byContradiction hz
  simp only [Bool.false_eq_true, if_false] at h
  split at h
  · injection h with _ h; injection h with _ h; cases h
  injection h with h1 _
  obtain ⟨t1, t2⟩ := rowE_text nums l _ true 0 rfl (Nat.zero_le _) hz
  subst h1
  refine ⟨?_, fun x hx => ?_⟩
  · rw [List.map_map]
    have hm : ((rowE nums false l true 0).1.map (elT nums ∘ fun x => x.1)) = (rowE nums false l true 0).1.map fun x => elT nums x.1 := rfl
    rw [hm]
    unfold rowT
    rw [if_neg]
    · have : partT true ((rowE nums false l true 0).1.map fun x => elT nums x.1) = joinT ((rowE nums false l true 0).1.map fun x => elT nums x.1) := rfl
      rw [← this, ← t1]; rfl
    · intro q
      obtain ⟨y, hy, e⟩ := List.mem_map.1 q
      exact (t2 y hy).2 e
  · obtain ⟨y, hy, rfl⟩ := List.mem_map.1 hx
    exact (t2 y hy).1
end Go.Proofs.Ytlgbeekhaoiggaa
end

section
namespace Go.Proofs.Ytlgbeekhaoiggaa
open Go.AM
set_option maxHeartbeats 4000000
variable {f : Nat} {h : Heap}
theorem textOnce_runs {l : List UInt8} : Runs X ⟨f, []⟩ 5 [sv l] h (.bool true) h := by
  refine Runs_of rfl f5_is ?_
  simp only [f5r0, f5r1, f5r2, f5r3, f5r4, f5r5, f5r6, f5r7, f5b]
  by_cases hbig : 3000 < l.length
  · repeat' (first
 | refine za ?_ | refine zb ?_ | refine zc ?_ | refine zd ?_ | refine ze ?_ | refine zf ?_ | refine zg ?_ | refine zh ?_ | (refine zi ?_; try refine RgD_plain rfl ?_) | refine w_drawn rfl ?_ | refine zj ?_ | refine zl ?_
 | ((first | apply zs | (apply zt; (focus rfl)) | (apply zu; (focus rfl)) | (apply zv; (focus rfl)) | apply zw | apply zx | apply zy | apply zB | apply zC | apply zD | apply zE | apply zF); (focus ((conv => lhs; simp (disch := omega) [-env0_get, bound, List.getElem?_cons_zero, List.getElem?_cons_succ, odt, odf, oip, oin, obt, obf, ont, onf, wrapI, owu, ow8, ow32, otd, oe0, oe1, oe2, oe3, oe4, oe5, oe6, otn, ot1, ot2, ot4]); first | done | rfl)); first | apply zk | (apply zn; (focus rfl); try (focus (first | rfl | (simp; done)))) | (apply zo; (focus rfl)) | apply gv_u | apply gv_tt | apply gv_ff | apply gv_ft | apply gv_tf | (apply gv_split <;> intro hc <;> try simp only [decide_eq_true_eq, decide_eq_false_iff_not, beq_iff_eq, beq_eq_false_iff_ne, bne_iff_ne, bne_eq_false_iff_eq, Bool.not_true, Bool.not_false, ne_eq] at hc) | exact alive18_runs)
 | (simp (disch := omega) only [thenQ_normal, thenQ_exit, thenQ_ret, blockQ_normal, blockQ_ret, blockQ_exit_same, blockQ_exit_ne]))
  have hl : l.length ≤ 900000 := by omega
  have hsz : h.size ≤ h.size := Nat.le_refl _
  have n1 := rowR_len false false l
  have n2 := rowR_len true false l
  rcases hr1 : rowR false false l with ⟨xs, p1, er1⟩
  rcases hr2 : rowR true false l with ⟨ys, p2, er2⟩
  rw [hr1] at n1
  rw [hr2] at n2
  simp only at n1 n2
  repeat' (first
 | refine za ?_ | refine zb ?_ | refine zc ?_ | refine zd ?_ | refine ze ?_ | refine zf ?_ | refine zg ?_ | refine zh ?_ | (refine zi ?_; try refine RgD_plain rfl ?_) | refine w_drawn rfl ?_ | refine zj ?_ | refine zl ?_
 | ((first | apply zs | (apply zt; (focus rfl)) | (apply zu; (focus rfl)) | (apply zv; (focus rfl)) | apply zx | apply zy | apply zB | apply zC | apply zD | apply zE | apply zF); (focus ((conv => lhs; simp (disch := omega) [-env0_get, bound, List.getElem?_cons_zero, List.getElem?_cons_succ, odt, odf, oip, oin, obt, obf, ont, onf, wrapI, owu, ow8, ow32, otd, oe0, oe1, oe2, oe3, oe4, oe5, oe6, otn, ot1, ot2, ot4]); first | done | rfl)); first | apply zk | (apply zn; (focus rfl); try (focus (first | rfl | (simp; done)))) | (apply zo; (focus rfl)) | apply gv_u | apply gv_tt | apply gv_ff | apply gv_ft | apply gv_tf | (apply gv_split <;> intro hc <;> try simp only [decide_eq_true_eq, decide_eq_false_iff_not, beq_iff_eq, beq_eq_false_iff_ne, bne_iff_ne, bne_eq_false_iff_eq, Bool.not_true, Bool.not_false, ne_eq] at hc))
 | (simp (disch := omega) only [thenQ_normal, thenQ_exit, thenQ_ret, blockQ_normal, blockQ_ret, blockQ_exit_same, blockQ_exit_ne]))
  (apply zW; (focus ((conv => lhs; simp (disch := omega) [-env0_get, bound, List.getElem?_cons_zero, List.getElem?_cons_succ, odt, odf, oip, oin, obt, obf, ont, onf, wrapI, owu, ow8, ow32, otd, oe0, oe1, oe2, oe3, oe4, oe5, oe6, otn, ot1, ot2, ot4]); first | done | rfl)); (focus exact (readS_R hl (Nat.le_refl _)))); intro va ha qa
  obtain ⟨wa, rfl, ka, ra⟩ := qa
  rw [hr1] at ra
  simp only [hr1]
  have sa := ka.1
  have tail : ∀ (env : Env), env 0 = sv l → Ok X ⟨h.size, []⟩ (.seq (.reg f5r6) (.seq (.reg f5r7) .ret)) env ha (EndsQ [.tmp 2] .pure h (.bool true) h) := by
    intro env e0
    simp only [f5r6, f5r7]
    repeat' (first
 | refine za ?_ | refine zb ?_ | refine zc ?_ | refine zd ?_ | refine ze ?_ | refine zf ?_ | refine zg ?_ | refine zh ?_ | (refine zi ?_; try refine RgD_plain rfl ?_) | refine w_drawn rfl ?_ | refine zj ?_ | refine zl ?_
 | ((first | apply zs | (apply zt; (focus rfl)) | (apply zu; (focus rfl)) | (apply zv; (focus rfl)) | apply zx | apply zy | apply zB | apply zC | apply zD | apply zE | apply zF); (focus ((conv => lhs; simp (disch := omega) [-env0_get, bound, List.getElem?_cons_zero, List.getElem?_cons_succ, odt, odf, oip, oin, obt, obf, ont, onf, wrapI, owu, ow8, ow32, otd, oe0, oe1, oe2, oe3, oe4, oe5, oe6, otn, ot1, ot2, ot4, e0]); first | done | rfl)); first | apply zk | (apply zn; (focus rfl); try (focus (first | rfl | (simp [e0]; done)))) | (apply zo; (focus rfl)) | apply gv_u | apply gv_tt | apply gv_ff | apply gv_ft | apply gv_tf | (apply gv_split <;> intro hc <;> try simp only [decide_eq_true_eq, decide_eq_false_iff_not, beq_iff_eq, beq_eq_false_iff_ne, bne_iff_ne, bne_eq_false_iff_eq, Bool.not_true, Bool.not_false, ne_eq] at hc))
 | (simp (disch := omega) only [thenQ_normal, thenQ_exit, thenQ_ret, blockQ_normal, blockQ_ret, blockQ_exit_same, blockQ_exit_ne]))
    (apply zW; (focus ((conv => lhs; simp (disch := omega) [-env0_get, bound, List.getElem?_cons_zero, List.getElem?_cons_succ, odt, odf, oip, oin, obt, obf, ont, onf, wrapI, owu, ow8, ow32, otd, oe0, oe1, oe2, oe3, oe4, oe5, oe6, otn, ot1, ot2, ot4, e0]); first | done | rfl)); (focus exact (readG_R hl (by omega)))); intro vb hb qb
    obtain ⟨wb, rfl, kb, rb⟩ := qb
    rw [hr2] at rb
    simp only [hr2]
    by_cases he : er2 = 0
    · subst he
      obtain ⟨t1, t2⟩ := rowR_text hr2
      have c1 := fun f => segsT_runs (f := f) rb (by simp only; omega) t2
      rw [show rowT (ys.map segT) = l from t1] at c1
      repeat' (first
 | refine za ?_ | refine zb ?_ | refine zc ?_ | refine zd ?_ | refine ze ?_ | refine zf ?_ | refine zg ?_ | refine zh ?_ | (refine zi ?_; try refine RgD_plain rfl ?_) | refine w_drawn rfl ?_ | refine zj ?_ | refine zl ?_
 | ((first | apply zs | (apply zt; (focus rfl)) | (apply zu; (focus rfl)) | (apply zv; (focus rfl)) | apply zw | apply zx | apply zy | apply zB | apply zC | apply zD | apply zE | apply zF); (focus ((conv => lhs; simp (disch := omega) [-env0_get, bound, List.getElem?_cons_zero, List.getElem?_cons_succ, odt, odf, oip, oin, obt, obf, ont, onf, wrapI, owu, ow8, ow32, otd, oe0, oe1, oe2, oe3, oe4, oe5, oe6, otn, ot1, ot2, ot4, e0, binS]); first | done | rfl)); first | apply zk | (apply zn; (focus rfl); try (focus (first | rfl | (simp [e0, binS]; done)))) | (apply zo; (focus rfl)) | apply gv_u | apply gv_tt | apply gv_ff | apply gv_ft | apply gv_tf | (apply gv_split <;> intro hc <;> try simp only [decide_eq_true_eq, decide_eq_false_iff_not, beq_iff_eq, beq_eq_false_iff_ne, bne_iff_ne, bne_eq_false_iff_eq, Bool.not_true, Bool.not_false, ne_eq] at hc) | exact alive18_runs | exact (c1 _))
 | (simp (disch := omega) only [thenQ_normal, thenQ_exit, thenQ_ret, blockQ_normal, blockQ_ret, blockQ_exit_same, blockQ_exit_ne]))
    · repeat' (first
 | refine za ?_ | refine zb ?_ | refine zc ?_ | refine zd ?_ | refine ze ?_ | refine zf ?_ | refine zg ?_ | refine zh ?_ | (refine zi ?_; try refine RgD_plain rfl ?_) | refine w_drawn rfl ?_ | refine zj ?_ | refine zl ?_
 | ((first | apply zs | (apply zt; (focus rfl)) | (apply zu; (focus rfl)) | (apply zv; (focus rfl)) | apply zw | apply zx | apply zy | apply zB | apply zC | apply zD | apply zE | apply zF); (focus ((conv => lhs; simp (disch := omega) [-env0_get, bound, List.getElem?_cons_zero, List.getElem?_cons_succ, odt, odf, oip, oin, obt, obf, ont, onf, wrapI, owu, ow8, ow32, otd, oe0, oe1, oe2, oe3, oe4, oe5, oe6, otn, ot1, ot2, ot4, e0, binS]); first | done | rfl)); first | apply zk | (apply zn; (focus rfl); try (focus (first | rfl | (simp [e0, binS]; done)))) | (apply zo; (focus rfl)) | apply gv_u | apply gv_tt | apply gv_ff | apply gv_ft | apply gv_tf | (apply gv_split <;> intro hc <;> try simp only [decide_eq_true_eq, decide_eq_false_iff_not, beq_iff_eq, beq_eq_false_iff_ne, bne_iff_ne, bne_eq_false_iff_eq, Bool.not_true, Bool.not_false, ne_eq] at hc) | exact alive18_runs)
 | (simp (disch := omega) only [thenQ_normal, thenQ_exit, thenQ_ret, blockQ_normal, blockQ_ret, blockQ_exit_same, blockQ_exit_ne]))
  generalize hT : ACode.seq (ACode.reg f5r6) (ACode.seq (ACode.reg f5r7) .ret) = T at tail
  simp only [f5r6, f5r7] at hT
  rw [hT]
  by_cases he : er1 = 0
  · subst he
    obtain ⟨t1, t2⟩ := rowR_text hr1
    have c1 := fun f => spansT_runs (f := f) ra (by simp; omega) (by intro x hx; obtain ⟨y, hy, rfl⟩ := List.mem_map.1 hx; exact (t2 y hy).1)
    rw [show rowT ((xs.map (·.s)).map boundT) = l by rw [List.map_map]; exact t1] at c1
    repeat' (first
 | refine za ?_ | refine zb ?_ | refine zc ?_ | refine zd ?_ | refine ze ?_ | refine zf ?_ | refine zg ?_ | refine zh ?_ | (refine zi ?_; try refine RgD_plain rfl ?_) | refine w_drawn rfl ?_ | refine zj ?_ | refine zl ?_
 | ((first | apply zs | (apply zt; (focus rfl)) | (apply zu; (focus rfl)) | (apply zv; (focus rfl)) | apply zw | apply zx | apply zy | apply zB | apply zC | apply zD | apply zE | apply zF); (focus ((conv => lhs; simp (disch := omega) [-env0_get, bound, List.getElem?_cons_zero, List.getElem?_cons_succ, odt, odf, oip, oin, obt, obf, ont, onf, wrapI, owu, ow8, ow32, otd, oe0, oe1, oe2, oe3, oe4, oe5, oe6, otn, ot1, ot2, ot4, binS]); first | done | rfl)); first | apply zk | (apply zn; (focus rfl); try (focus (first | rfl | (simp [binS]; done)))) | (apply zo; (focus rfl)) | apply gv_u | apply gv_tt | apply gv_ff | apply gv_ft | apply gv_tf | (apply gv_split <;> intro hc <;> try simp only [decide_eq_true_eq, decide_eq_false_iff_not, beq_iff_eq, beq_eq_false_iff_ne, bne_iff_ne, bne_eq_false_iff_eq, Bool.not_true, Bool.not_false, ne_eq] at hc) | exact (c1 _))
 | (simp (disch := omega) only [thenQ_normal, thenQ_exit, thenQ_ret, blockQ_normal, blockQ_ret, blockQ_exit_same, blockQ_exit_ne]))
    exact tail _ (by simp)
  · repeat' (first
 | refine za ?_ | refine zb ?_ | refine zc ?_ | refine zd ?_ | refine ze ?_ | refine zf ?_ | refine zg ?_ | refine zh ?_ | (refine zi ?_; try refine RgD_plain rfl ?_) | refine w_drawn rfl ?_ | refine zj ?_ | refine zl ?_
 | ((first | apply zs | (apply zt; (focus rfl)) | (apply zu; (focus rfl)) | (apply zv; (focus rfl)) | apply zx | apply zy | apply zB | apply zC | apply zD | apply zE | apply zF); (focus ((conv => lhs; simp (disch := omega) [-env0_get, bound, List.getElem?_cons_zero, List.getElem?_cons_succ, odt, odf, oip, oin, obt, obf, ont, onf, wrapI, owu, ow8, ow32, otd, oe0, oe1, oe2, oe3, oe4, oe5, oe6, otn, ot1, ot2, ot4, binS]); first | done | rfl)); first | apply zk | (apply zn; (focus rfl); try (focus (first | rfl | (simp [binS]; done)))) | (apply zo; (focus rfl)) | apply gv_u | apply gv_tt | apply gv_ff | apply gv_ft | apply gv_tf | (apply gv_split <;> intro hc <;> try simp only [decide_eq_true_eq, decide_eq_false_iff_not, beq_iff_eq, beq_eq_false_iff_ne, bne_iff_ne, bne_eq_false_iff_eq, Bool.not_true, Bool.not_false, ne_eq] at hc))
 | (simp (disch := omega) only [thenQ_normal, thenQ_exit, thenQ_ret, blockQ_normal, blockQ_ret, blockQ_exit_same, blockQ_exit_ne]))
    exact tail _ (by simp)
end Go.Proofs.Ytlgbeekhaoiggaa
end
