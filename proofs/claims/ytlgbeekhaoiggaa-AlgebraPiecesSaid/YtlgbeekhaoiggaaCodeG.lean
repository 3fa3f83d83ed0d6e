import Derived.Test.YtlgbeekhaoiggaaCodeE
import Derived.Test.YtlgbeekhaoiggaaAmJ
set_option linter.all false
section
namespace Go.Proofs.Ytlgbeekhaoiggaa
open Go.AM Go.Sort
def stepL (out : List Sp) (s : Sp) : List Sp :=
  if s.right = true then
    (if out.length ≠ 0 ∧ ((meetS (nth out (out.length - 1)) s).2 || touchS (nth out (out.length - 1)).a (nth out (out.length - 1)).b (nth out (out.length - 1)).c (nth out (out.length - 1)).d s.a s.b s.c s.d) = true then out.set (out.length - 1) (hullS (nth out (out.length - 1)) s) else out ++ [s])
  else out
theorem lessC_first {a : Int × Int} (h : okN a.2) : lessC (-1, 0) a = decide (-9223372036854775808 < keyC a) := by
  rw [lessC_key (a := (-1, 0)) (by unfold okN; simp) h]; rfl
theorem lessC_last {a : Int × Int} (h : okN a.2) : lessC a (1, 0) = decide (keyC a < 9223372036854775808) := by
  rw [lessC_key (b := (1, 0)) h (by unfold okN; simp)]; rfl
theorem canon_key {a b : Int × Int} (ha : okN a.2) (hb : okN b.2) (h : keyC a = keyC b) : canon a = canon b :=
  key_inj (okN_canon ha) (okN_canon hb) (canon_canon a) (canon_canon b) (by rw [keyC_canon, keyC_canon, h])
theorem least2_eq {a b : Int × Int} (ha : okN a.2) (hb : okN b.2) (ca : canon a = a) (cb : canon b = b) : least2 a b = if keyC b < keyC a then b else a := by
  have h1 := keyC_rng ha
  have hk : keyC (1, 0) = 9223372036854775808 := rfl
  have hl : okN ((1, 0) : Int × Int).2 := by unfold okN; simp
  have e : (if lessC a (1, 0) = true then canon a else (1, 0)) = a := by
    rw [lessC_last ha]
    split
    · exact ca
    · rename_i q
      have : keyC a = keyC (1, 0) := by simp at q; rw [hk]; omega
      rw [← ca, canon_key ha hl this]; rfl
  unfold least2
  rw [e, cb, lessC_key hb ha]
  simp only [decide_eq_true_eq]
theorem greatest2_eq {a b : Int × Int} (ha : okN a.2) (hb : okN b.2) (ca : canon a = a) (cb : canon b = b) : greatest2 a b = if keyC a < keyC b then b else a := by
  have h1 := keyC_rng ha
  have hk : keyC (-1, 0) = -9223372036854775808 := rfl
  have hl : okN ((-1, 0) : Int × Int).2 := by unfold okN; simp
  have e : (if lessC (-1, 0) a = true then canon a else (-1, 0)) = a := by
    rw [lessC_first ha]
    split
    · exact ca
    · rename_i q
      have : keyC a = keyC (-1, 0) := by simp at q; rw [hk]; omega
      rw [← ca, canon_key ha hl this]; rfl
  unfold greatest2
  rw [e, cb, lessC_key ha hb]
  simp only [decide_eq_true_eq]
structure PutL (out : List Sp) (lo : Int) : Prop where
  ok : ∀ x ∈ out, okP x
  rt : ∀ x ∈ out, x.right = true
  pw : out.Pairwise fun s t => highK s < lowK t
  lo : ∀ x ∈ out, lowK x ≤ lo
theorem PutL.nil (lo : Int) : PutL [] lo := ⟨by simp, by simp, .nil, by simp⟩
theorem inS_iff {s : Sp} (h : s.right = true) {n : Int} : inS s n ↔ lowK s ≤ n ∧ n < highK s := ⟨fun q => q.2, fun q => ⟨h, q⟩⟩
theorem pair_ext {a b c d : Int} : ((a, b) : Int × Int) = (c, d) ↔ a = c ∧ b = d := Prod.ext_iff
theorem right_of {a b c d : Int} (h1 : canon (a, b) = (a, b)) (h2 : canon (c, d) = (c, d)) (o1 : okN b) (o2 : okN d) (h : keyC (a, b) < keyC (c, d)) : okP ⟨a, b, c, d⟩ ∧ (⟨a, b, c, d⟩ : Sp).right = true :=
  ⟨⟨o1, o2⟩, (right_iff ⟨o1, o2⟩).2 ⟨h1, h2, h⟩⟩
theorem stepL_ok {out : List Sp} {s : Sp} {lo : Int} (p : PutL out lo) (hs : okP s) (hr : s.right = true) (hl : lo ≤ lowK s) : PutL (stepL out s) (lowK s) ∧ ∀ n, inL (stepL out s) n ↔ inL out n ∨ inS s n := by
  obtain ⟨c1, c2, hlt⟩ := (right_iff hs).1 hr
  unfold stepL
  rw [if_pos hr]
  by_cases h0 : out.length = 0
  · obtain rfl := List.eq_nil_of_length_eq_zero h0
    rw [if_neg (by simp)]
    refine ⟨⟨by simpa using hs, by simpa using hr, by simp, by simp⟩, fun n => by simp [inL]⟩
  · have hlast := last_ne h0
    obtain ⟨ys, hys⟩ := List.getLast?_eq_some_iff.1 hlast
    generalize ht : nth out (out.length - 1) = t at *
    have hto := p.ok t (by rw [hys]; simp)
    have htr := p.rt t (by rw [hys]; simp)
    have htl := p.lo t (by rw [hys]; simp)
    obtain ⟨d1, d2, dlt⟩ := (right_iff hto).1 htr
    have hpw := p.pw
    rw [hys] at hpw
    obtain ⟨pw1, _, pw2⟩ := List.pairwise_append.1 hpw
    have both : (t.right && s.right) = true := by simp [htr, hr]
    have g1 := greatest2_eq hto.1 hs.1 d1 c1
    have l1 := least2_eq hto.2 hs.2 d2 c2
    have l2 := least2_eq hto.1 hs.1 d1 c1
    have g2 := greatest2_eq hto.2 hs.2 d2 c2
    have kt1 : keyC (t.a, t.b) = lowK t := rfl
    have kt2 : keyC (t.c, t.d) = highK t := rfl
    have ks1 : keyC (s.a, s.b) = lowK s := rfl
    have ks2 : keyC (s.c, s.d) = highK s := rfl
    have hmt : ((meetS t s).2 || touchS t.a t.b t.c t.d s.a s.b s.c s.d) = decide (lowK s ≤ highK t) := by
      have hm : (meetS t s).2 = decide (lowK s < highK t) := by
        unfold meetS
        rw [if_pos both]
        have hgk : keyC (greatest2 (t.a, t.b) (s.a, s.b)) = lowK s := by rw [g1]; split <;> omega
        have hgo : okN (greatest2 (t.a, t.b) (s.a, s.b)).2 := by rw [g1]; split; exact hs.1; exact hto.1
        have hlo : okN (least2 (t.c, t.d) (s.c, s.d)).2 := by rw [l1]; split; exact hs.2; exact hto.2
        have hlk : keyC (least2 (t.c, t.d) (s.c, s.d)) = if highK s < highK t then highK s else highK t := by rw [l1, kt2, ks2]; split <;> rfl
        have ho : (ofS (greatest2 (t.a, t.b) (s.a, s.b)) (least2 (t.c, t.d) (s.c, s.d))).right = decide (lowK s < highK t) := by
          have hok : okP (ofS (greatest2 (t.a, t.b) (s.a, s.b)) (least2 (t.c, t.d) (s.c, s.d))) := ⟨okN_canon hgo, okN_canon hlo⟩
          have hri := right_iff hok
          have e1 : lowK (ofS (greatest2 (t.a, t.b) (s.a, s.b)) (least2 (t.c, t.d) (s.c, s.d))) = lowK s := by rw [← hgk]; exact keyC_canon _
          have e2 : highK (ofS (greatest2 (t.a, t.b) (s.a, s.b)) (least2 (t.c, t.d) (s.c, s.d))) = if highK s < highK t then highK s else highK t := by rw [← hlk]; exact keyC_canon _
          rw [e1, e2] at hri
          by_cases hq : lowK s < highK t
          · rw [decide_eq_true hq]; exact hri.2 ⟨canon_canon _, canon_canon _, by split <;> omega⟩
          · rw [decide_eq_false hq]
            cases hx : (ofS (greatest2 (t.a, t.b) (s.a, s.b)) (least2 (t.c, t.d) (s.c, s.d))).right with
            | false => rfl
            | true => have := (hri.1 hx).2.2; split at this <;> omega
        rw [ho]
        by_cases hq : lowK s < highK t <;> simp [hq]
      have htch : touchS t.a t.b t.c t.d s.a s.b s.c s.d = decide (lowK s = highK t) := by
        have e1 : (t.c == s.a && t.d == s.b) = decide (lowK s = highK t) := by
          by_cases hq : lowK s = highK t
          · have := key_inj hs.1 hto.2 c1 d2 hq
            rw [pair_ext] at this; simp [hq, this.1, this.2]
          · rw [decide_eq_false hq]
            cases hx : (t.c == s.a && t.d == s.b) with
            | false => rfl
            | true =>
              simp only [Bool.and_eq_true, beq_iff_eq] at hx
              exact absurd (by show keyC (s.a, s.b) = keyC (t.c, t.d); rw [hx.1, hx.2]) hq
        have e2 : (s.c == t.a && s.d == t.b) = false := by
          cases hx : (s.c == t.a && s.d == t.b) with
          | false => rfl
          | true =>
            simp only [Bool.and_eq_true, beq_iff_eq] at hx
            have : highK s = lowK t := by show keyC (s.c, s.d) = keyC (t.a, t.b); rw [hx.1, hx.2]
            omega
        have e3 : (rightS t.a t.b t.c t.d && rightS s.a s.b s.c s.d) = true := both
        unfold touchS
        rw [e3, e1, e2]; simp
      rw [hm, htch]
      by_cases hq : lowK s ≤ highK t
      · by_cases hq2 : lowK s < highK t
        · simp [hq, hq2]
        · simp [hq, show lowK s = highK t by omega]
      · simp [hq, show ¬ lowK s < highK t by omega, show ¬ lowK s = highK t by omega]
    rw [hmt]
    by_cases hq : lowK s ≤ highK t
    · rw [if_pos ⟨h0, by simpa using hq⟩]
      have hset : out.set (out.length - 1) (hullS t s) = ys ++ [hullS t s] := by
        have : out.length - 1 = ys.length := by rw [hys]; simp
        rw [this, hys, List.set_append_right _ _ (Nat.le_refl _)]; simp
      rw [hset]
      have hh : hullS t s = ⟨t.a, t.b, (greatest2 (t.c, t.d) (s.c, s.d)).1, (greatest2 (t.c, t.d) (s.c, s.d)).2⟩ := by
        unfold hullS; rw [if_pos both, l2, if_neg (by omega)]
      have hhk : highK (hullS t s) = if highK t < highK s then highK s else highK t := by
        rw [hh]; show keyC (greatest2 (t.c, t.d) (s.c, s.d)) = _; rw [g2, kt2, ks2]; split <;> rfl
      have hhl : lowK (hullS t s) = lowK t := by rw [hh]; rfl
      have hho : okP (hullS t s) ∧ (hullS t s).right = true := by
        rw [hh]
        refine right_of d1 ?_ hto.1 ?_ ?_
        · show canon (greatest2 _ _) = _; rw [g2]; split; exact c2; exact d2
        · show okN (greatest2 _ _).2; rw [g2]; split; exact hs.2; exact hto.2
        · show lowK t < keyC (greatest2 _ _); rw [g2]; split <;> omega
      refine ⟨⟨fun x hx => ?_, fun x hx => ?_, ?_, fun x hx => ?_⟩, fun n => ?_⟩
      · rcases List.mem_append.1 hx with hx | hx
        · exact p.ok x (by rw [hys]; simp [hx])
        · simp at hx; rw [hx]; exact hho.1
      · rcases List.mem_append.1 hx with hx | hx
        · exact p.rt x (by rw [hys]; simp [hx])
        · simp at hx; rw [hx]; exact hho.2
      · refine List.pairwise_append.2 ⟨pw1, by simp, fun x hx y hy => ?_⟩
        simp at hy; rw [hy, hhl]; exact pw2 x hx t (by simp)
      · rcases List.mem_append.1 hx with hx | hx
        · have := p.lo x (by rw [hys]; simp [hx]); omega
        · simp at hx; rw [hx, hhl]; omega
      · rw [hys, inL_app, inL_app, inL_one, inL_one, inS_iff hho.2, inS_iff htr, inS_iff hr, hhl, hhk, or_assoc]
        constructor
        · rintro (q | q)
          · exact .inl q
          · right; split at q <;> omega
        · rintro (q | q)
          · exact .inl q
          · right; split <;> omega
    · rw [if_neg (fun q => hq (by simpa using q.2))]
      refine ⟨⟨fun x hx => ?_, fun x hx => ?_, ?_, fun x hx => ?_⟩, fun n => ?_⟩
      · rcases List.mem_append.1 hx with hx | hx
        · exact p.ok x hx
        · simp at hx; rw [hx]; exact hs
      · rcases List.mem_append.1 hx with hx | hx
        · exact p.rt x hx
        · simp at hx; rw [hx]; exact hr
      · refine List.pairwise_append.2 ⟨p.pw, by simp, fun x hx y hy => ?_⟩
        simp at hy; rw [hy]
        rw [hys] at hx
        rcases List.mem_append.1 hx with hx | hx
        · have := pw2 x hx t (by simp); omega
        · simp at hx; rw [hx]; omega
      · rcases List.mem_append.1 hx with hx | hx
        · have := p.lo x hx; omega
        · simp at hx; rw [hx]; omega
      · rw [inL_app, inL_one]
theorem cmpS_low {x y : Sp} (hx : okP x) (hy : okP y) (h : ltOf cmpS y x = false) : lowK x ≤ lowK y := by
  have hn := cmpS_neg y x
  unfold ltOf at h
  simp only [decide_eq_false_iff_not] at h
  rw [hn] at h
  have := lessC_key (a := (y.a, y.b)) (b := (x.a, x.b)) hy.1 hx.1
  have h2 := @cmpC_neg (y.a, y.b) (x.a, x.b)
  rw [this, cmpC_lt, decide_eq_true_eq] at h2
  unfold lowK
  omega
theorem foldL_ok : ∀ (l out : List Sp) (lo : Int), PutL out lo → (∀ s ∈ l, okP s ∧ lo ≤ lowK s) → (l.Pairwise fun x y => ltOf cmpS y x = false) → (∃ lo', PutL (l.foldl stepL out) lo') ∧ ∀ n, inL (l.foldl stepL out) n ↔ inL out n ∨ inL l n
  | [], out, lo, p, _, _ => ⟨⟨lo, p⟩, fun n => by simp [inL]⟩
  | s :: l, out, lo, p, h, pw => by
    obtain ⟨q1, q2⟩ := List.pairwise_cons.1 pw
    have hs := h s (by simp)
    have hl : ∀ t ∈ l, okP t ∧ lowK s ≤ lowK t := fun t ht => ⟨(h t (by simp [ht])).1, cmpS_low hs.1 (h t (by simp [ht])).1 (q1 t ht)⟩
    rw [List.foldl_cons]
    by_cases hr : s.right = true
    · obtain ⟨p2, m⟩ := stepL_ok p hs.1 hr hs.2
      obtain ⟨r1, r2⟩ := foldL_ok l _ _ p2 hl q2
      refine ⟨r1, fun n => ?_⟩
      rw [r2, m, or_assoc, show inL (s :: l) n ↔ inS s n ∨ inL l n by simp [inL]]
    · have he : stepL out s = out := by unfold stepL; rw [if_neg hr]
      rw [he]
      obtain ⟨r1, r2⟩ := foldL_ok l out lo p (fun t ht => h t (by simp [ht])) q2
      refine ⟨r1, fun n => ?_⟩
      rw [r2, show inL (s :: l) n ↔ inS s n ∨ inL l n by simp [inL], show inS s n ↔ False from ⟨fun q => hr q.1, False.elim⟩]
      simp
theorem foldL_list {xs : List Sp} (hx : ∀ x ∈ xs, okP x) : (sortL cmpS xs).foldl stepL [] = listW xs := by
  have hp := sortL_perm swoSpan xs
  have hm : ∀ x, x ∈ sortL cmpS xs ↔ x ∈ xs := fun x => hp.mem_iff
  obtain ⟨⟨lo, p⟩, m⟩ := foldL_ok (sortL cmpS xs) [] (-9223372036854775808) (PutL.nil _) (fun s hs => ⟨hx s ((hm s).1 hs), (keyC_rng (hx s ((hm s).1 hs)).1).1⟩) (sortL_sorted swoSpan xs)
  obtain ⟨q1, q2, q3⟩ := listW_ok hx
  refine canL_eq p.ok q1 ((canL_pw p.ok).2 ⟨p.rt, p.pw⟩) q2 fun n => ?_
  rw [m, q3]
  simp [inL, hm]
end Go.Proofs.Ytlgbeekhaoiggaa
end

section
namespace Go.Proofs.Ytlgbeekhaoiggaa
open Go.AM Go.Sort
set_option maxHeartbeats 4000000
variable {f : Nat} {h : Heap}
theorem stepL_r {out : List Sp} {s : Sp} (h : s.right = true) : stepL out s = if out.length ≠ 0 ∧ ((meetS (nth out (out.length - 1)) s).2 || touchS (nth out (out.length - 1)).a (nth out (out.length - 1)).b (nth out (out.length - 1)).c (nth out (out.length - 1)).d s.a s.b s.c s.d) = true then out.set (out.length - 1) (hullS (nth out (out.length - 1)) s) else out ++ [s] := if_pos h
theorem copy_all {e k b n : Nat} {c l : List Value} {x : Value} (hb : h[b]? = some (.cells c e)) (hc : c.length = n * k) (hx : srcCells h k x = some (n, l)) (hl : l.length = n * k) (h1 : l.all Go.AM.one = true) (hf : f ≤ b) :
    aCopy ⟨f, []⟩ h k (.slice (some ⟨b, 0, none⟩) n n) x = some (.int .i64 n, h.setIfInBounds b (.cells l e)) := by
  have hlt := (Array.getElem?_eq_some_iff.1 hb).1
  have hm : Nat.min n n = n := Nat.min_self n
  unfold aCopy
  simp only [hx, Option.isSome_none, Bool.false_eq_true, if_false, hm]
  by_cases h0 : n * k = 0
  · rw [if_pos h0]
    have e1 : l = [] := List.eq_nil_of_length_eq_zero (by omega)
    have e2 : c = [] := List.eq_nil_of_length_eq_zero (by omega)
    subst e1 e2
    congr 2
    apply Array.ext_getElem?
    intro j
    rw [Array.getElem?_setIfInBounds]
    by_cases hj : b = j
    · subst hj; rw [if_pos rfl, if_pos hlt, hb]
    · rw [if_neg hj]
  · rw [if_neg h0, ← hl, List.take_length, wr_def hb, if_pos ⟨hf, h1, by omega⟩]
    have : putAt c 0 l = l := by unfold putAt; rw [List.take_zero, List.nil_append, List.drop_eq_nil_of_le (by omega), List.append_nil]
    rw [this]; rfl
theorem sortSpan_B {g : Nat} {w : Value} {xs : List Sp} (ho : Buf g h 46 4 w (elems spC xs)) (hf : f ≤ g) (hl : xs.length ≤ 100000) : callR Xq ⟨f, []⟩ 96 [w, .func (.func 97) #[] #[]] h fun w' h' => Buf g h' 46 4 w (elems spC (sortL cmpS xs)) ∧ Low g h h' := by
  by_cases hx0 : xs.length = 0
  · have hxe := List.eq_nil_of_length_eq_zero hx0
    subst hxe
    have hs0 : elems spC (sortL cmpS []) = [] := List.eq_nil_of_length_eq_zero (by rw [elems_len spC_len, sortL_len swoSpan]; rfl)
    refine callR.of (Runs_ext rfl (v := .tuple #[]) (h' := h) ?_) ⟨by rw [hs0]; simpa using ho, .refl _ _⟩
    rcases ho with ⟨rfl, _⟩ | ⟨b, n, rfl, qn, _⟩
    · simp [sSort]
    · have : n = 0 := by simp at qn; omega
      subst this; simp [sSort]
  · have hp : 0 < (elems spC xs).length := by rw [elems_len spC_len]; omega
    have ho' : Own g h 46 4 w (elems spC xs) := ⟨by
      rcases ho with ⟨rfl, q⟩ | ⟨b, n, q1, q2, q3, q4⟩
      · rw [q] at hp; simp at hp
      · exact .inr ⟨hp, b, n, q1, q2, q3, q4⟩, sp_one xs⟩
    exact (sortSpan_R ho' hf hl).mono fun v' h' ⟨a, b⟩ => ⟨a.buf, b⟩
theorem stepL_len (out : List Sp) (s : Sp) : (stepL out s).length ≤ out.length + 1 := by
  unfold stepL; split
  · split <;> simp
  · omega
theorem foldL_len : ∀ (l out : List Sp), (l.foldl stepL out).length ≤ out.length + l.length
  | [], out => by simp
  | s :: l, out => by have := foldL_len l (stepL out s); have := stepL_len out s; simp; omega
theorem spanList_runs {v : Value} {xs : List Sp} (hr : SRow h v xs) (hl : xs.length ≤ 1000) (hx : ∀ x ∈ xs, okP x) : Runs Xq ⟨f, []⟩ 61 [v] h (rowV h.size (listW xs).length) (pushR h 46 (elems spC (listW xs))) := by
  refine runs_R rfl f61_is ?_
  have hR := hr.R spC_len
  simp (disch := first | omega | decide | with_unfolding_all rfl) [hR]
  have hr1 := hr.push (.cells (List.replicate xs.length [Value.int IntKind.i64 0, Value.int IntKind.i64 0, Value.int IntKind.i64 0, Value.int IntKind.i64 0]).flatten 46)
  have hz : (List.replicate xs.length [Value.int IntKind.i64 0, Value.int IntKind.i64 0, Value.int IntKind.i64 0, Value.int IntKind.i64 0]).flatten.length = xs.length * 4 := by simp
  have hc := copy_all (f := h.size) (e := 46) (h := h.push (.cells (List.replicate xs.length [Value.int IntKind.i64 0, Value.int IntKind.i64 0, Value.int IntKind.i64 0, Value.int IntKind.i64 0]).flatten 46)) (by simp) hz hr1.src (elems_len spC_len xs) (sp_one xs) (Nat.le_refl h.size)
  generalize (List.replicate xs.length [Value.int IntKind.i64 0, Value.int IntKind.i64 0, Value.int IntKind.i64 0, Value.int IntKind.i64 0]).flatten = z at *
  rw [hc]
  rw [set_push, if_pos rfl]
  have b1 : Buf h.size (h.push (.cells (elems spC xs) 46)) 46 4 (.slice (some ⟨h.size, 0, none⟩) xs.length xs.length) (elems spC xs) := .inr ⟨h.size, xs.length, rfl, (elems_len spC_len xs).symm, by simp, Nat.le_refl _⟩
  have l1 : Low h.size h (h.push (.cells (elems spC xs) 46)) := .push (Nat.le_refl _) _
  generalize h.push (.cells (elems spC xs) 46) = h1 at *
  simp
  refine RF_by (sortSpan_B b1 (Nat.le_refl _) (by omega)) fun _ h2 ⟨b2, l2⟩ => ?_
  replace l2 := l1.trans l2
  have hsl := sortL_len swoSpan xs
  have hs2 := b2.rowE spC_len (by omega)
  rw [hsl] at hs2
  have hfl := foldL_list hx
  have hso : ∀ x ∈ sortL cmpS xs, okP x := fun x q => hx x ((sortL_perm swoSpan xs).mem_iff.1 q)
  rw [← hfl]
  have hl2 : (sortL cmpS xs).length ≤ 1000 := by rw [hsl]; exact hl
  generalize sortL cmpS xs = ss at *
  rw [← hsl] at *
  have hS := hs2.R spC_len
  have hst := hs2.lt
  generalize hws : Value.slice (some ⟨h.size, 0, none⟩) ss.length ss.length = ws at *
  have s2 := l2.1
  simp (disch := first | omega | decide | with_unfolding_all rfl) [hws, hS]
  obtain ⟨J, hJ⟩ : ∃ J : Nat × Value → Env → Heap → Prop, J = fun x e h' => e 4 = x.2 ∧ e 18 = .int .i64 (x.1 : Nat) ∧ x.1 ≤ ss.length ∧ Own h2.size h' 46 4 x.2 (elems spC ((ss.take x.1).foldl stepL [])) ∧ Low h2.size h2 h' := ⟨_, rfl⟩
  refine Run_while xlow [19, 20, 21, 6, 22, 23, 24, 7, 30, 31, 32, 29, 34, 35, 36, 37, 38, 39, 40, 41, 42, 43, 44, 45, 46, 47, 48, 49, 50, 51, 33, 52, 53, 54, 55, 56, 57, 58, 59, 60, 25, 26, 27, 28, 4, 61, 18] s2 J (fun x => ss.length - x.1) (0, .slice none 0 0) rfl (hJ ▸ ⟨by simp, by simp, by simp, .nil, .refl _ _⟩) ?_
  rintro ⟨i, w⟩ e h' j0 ke _
  rw [hJ] at j0
  obtain ⟨e4, e18, hi, ho, hl'⟩ := j0
  simp only at e4 e18 hi ho
  have e16 : e 16 = ws := by rw [ke 16 (by decide)]; simp
  have e17 : e 17 = .int .i64 ss.length := by rw [ke 17 (by decide)]; simp
  clear ke
  have s1 := hl'.1
  by_cases hlt2 : i < ss.length
  · have hfl2 := foldL_len (ss.take i) []
    rw [List.length_take, List.length_nil] at hfl2
    have htk : (ss.take (i + 1)).foldl stepL [] = stepL ((ss.take i).foldl stepL []) (nth ss i) := by rw [nth_take hlt2, List.foldl_append]; rfl
    have hw := (ho.row spC_len (by omega)).R spC_len
    have hwt := (ho.row spC_len (by omega)).lt
    have hrt : rightS (nth ss i).a (nth ss i).b (nth ss i).c (nth ss i).d = (nth ss i).right := rfl
    generalize hout : (ss.take i).foldl stepL [] = out at *
    generalize hx : nth ss i = x at *
    cases hq : x.right with
    | false =>
      rw [show stepL out x = out from if_neg (by simp [hq])] at htk
      simp +contextual (disch := first | omega | decide | with_unfolding_all rfl) [e4, e16, e17, e18, hS, hw, hl'.c, hlt2, RF_of (up rightS_runs), hx, spC, hrt, hq]
      exact .mk (i + 1, w) (hJ ▸ ⟨by simp [e4], by simp, by simp only; omega, by simp only; rw [htk]; exact ho.push _, hl'.pushR (Nat.le_refl _) _⟩) (by simp only; omega)
    | true =>
      rw [stepL_r hq] at htk
      by_cases ho0 : out.length = 0
      · rw [if_neg (by simp [ho0])] at htk
        simp +contextual (disch := first | omega | decide | with_unfolding_all rfl) [e4, e16, e17, e18, hS, hw, hl'.c, hlt2, RF_of (up rightS_runs), hx, spC, hrt, hq, ho0]
        refine RM_app1 (n := out.length) (ho.push _) (by omega) (by simp; omega) (by rw [elems_len spC_len]) rfl (by omega) rfl (by omega) (by omega) fun w2 h2 o2 l2 => ?_
        simp (disch := first | omega | decide | with_unfolding_all rfl) [e18]
        exact .mk (i + 1, w2) (hJ ▸ ⟨by simp, by simp, by simp only; omega, by simp only; rw [htk]; simpa [spC] using o2, (hl'.pushR (Nat.le_refl _) _).trans l2⟩) (by simp only; omega)
      · cases hm : ((meetS (nth out (out.length - 1)) x).2 || touchS (nth out (out.length - 1)).a (nth out (out.length - 1)).b (nth out (out.length - 1)).c (nth out (out.length - 1)).d x.a x.b x.c x.d) with
        | true =>
          rw [if_pos ⟨ho0, hm⟩] at htk
          rw [Bool.or_eq_true] at hm
          by_cases hm1 : (meetS (nth out (out.length - 1)) x).2 = true
          · simp +contextual (disch := first | omega | decide | with_unfolding_all rfl) [e4, e16, e17, e18, hS, hw, hl'.c, hlt2, RF_of (up rightS_runs), hx, spC, hrt, hq, ho0, RF_of overlap_runs, RF_of (up touch_runs), hm1, RF_of hull_runs]
            refine RM_set (i := out.length - 1) (y := hullS (nth out (out.length - 1)) x) ho spC_len (by omega) (by omega) (by omega) rfl rfl fun h3 o3 l3 => ?_
            simp (disch := first | omega | decide | with_unfolding_all rfl) [e18]
            exact .mk (i + 1, w) (hJ ▸ ⟨by simp [e4], by simp, by simp only; omega, by simp only; rw [htk]; exact o3.push _, (hl'.trans l3).pushR (Nat.le_refl _) _⟩) (by simp only; omega)
          · have hm2 := hm.resolve_left hm1
            simp +contextual (disch := first | omega | decide | with_unfolding_all rfl) [e4, e16, e17, e18, hS, hw, hl'.c, hlt2, RF_of (up rightS_runs), hx, spC, hrt, hq, ho0, RF_of overlap_runs, RF_of (up touch_runs), hm1, hm2, RF_of hull_runs]
            refine RM_set (i := out.length - 1) (y := hullS (nth out (out.length - 1)) x) ho spC_len (by omega) (by omega) (by omega) rfl rfl fun h3 o3 l3 => ?_
            simp (disch := first | omega | decide | with_unfolding_all rfl) [e18]
            exact .mk (i + 1, w) (hJ ▸ ⟨by simp [e4], by simp, by simp only; omega, by simp only; rw [htk]; exact o3.push _, (hl'.trans l3).pushR (Nat.le_refl _) _⟩) (by simp only; omega)
        | false =>
          rw [if_neg (by rw [hm]; simp)] at htk
          simp only [Bool.or_eq_false_iff] at hm
          simp +contextual (disch := first | omega | decide | with_unfolding_all rfl) [e4, e16, e17, e18, hS, hw, hl'.c, hlt2, RF_of (up rightS_runs), hx, spC, hrt, hq, ho0, RF_of overlap_runs, RF_of (up touch_runs), hm.1, hm.2]
          refine RM_app1 (n := out.length) (ho.push _) (by omega) (by simp; omega) (by rw [elems_len spC_len]) rfl (by omega) rfl (by omega) (by omega) fun w2 h2 o2 l2 => ?_
          simp (disch := first | omega | decide | with_unfolding_all rfl) [e18]
          exact .mk (i + 1, w2) (hJ ▸ ⟨by simp, by simp, by simp only; omega, by simp only; rw [htk]; simpa [spC] using o2, (hl'.pushR (Nat.le_refl _) _).trans l2⟩) (by simp only; omega)
  · rw [List.take_of_length_le (by omega)] at ho
    simp +contextual (disch := first | omega | decide | with_unfolding_all rfl) [e4, e17, e18, hlt2]
    exact RQ_own (ho.weak s2) spC_len (by omega) (all_below_ints (elems_ints spC_ints _)) ⟨rfl, rfl⟩
end Go.Proofs.Ytlgbeekhaoiggaa
end

section
namespace Go.Proofs.Ytlgbeekhaoiggaa
open Go.AM Go.Sort
set_option maxHeartbeats 4000000
variable {f : Nat} {h : Heap}
theorem cmpC_le {a b : Int × Int} (ha : okN a.2) (hb : okN b.2) : decide (cmpC a b ≤ 0) = decide (keyC a ≤ keyC b) := by
  have h := @cmpC_pos a b
  rw [lessC_key hb ha, decide_eq_true_eq] at h
  by_cases hq : keyC a ≤ keyC b
  · rw [decide_eq_true hq, decide_eq_true]; omega
  · rw [decide_eq_false hq, decide_eq_false]; omega
def hasF (ys : List Sp) (k : Int) (a : Nat) : Bool := decide (a < ys.length) && decide (lowK (nth ys a) ≤ k)
structure FrontP (ys : List Sp) (k : Int) (a : Nat) : Prop where
  le : a ≤ ys.length
  past : ∀ i, i < a → highK (nth ys i) ≤ k
theorem hasF_eq {ys : List Sp} {k : Int} {a : Nat} (hy : ∀ x ∈ ys, okP x) (hc : CanL ys) (p : FrontP ys k a) (hn : ¬ (a < ys.length ∧ highK (nth ys a) ≤ k)) : hasF ys k a = hasL ys k := by
  have hpw := (canL_pw hy).1 hc
  have hin : ∀ i, i < ys.length → (inS (nth ys i) k ↔ lowK (nth ys i) ≤ k ∧ k < highK (nth ys i)) := fun i hi => inS_iff (hpw.1 _ (nth_mem hi))
  have hlt : ∀ i j, i < j → j < ys.length → highK (nth ys i) < lowK (nth ys j) := fun i j hij hj => by
    have := List.pairwise_iff_getElem.1 hpw.2 i j (by omega) hj hij
    rw [nth_of (List.getElem?_eq_getElem (show i < ys.length by omega)), nth_of (List.getElem?_eq_getElem hj)]; exact this
  have hex : hasL ys k = true ↔ ∃ i, i < ys.length ∧ inS (nth ys i) k := by
    rw [hasL_iff]
    constructor
    · rintro ⟨s, hs, hk⟩
      obtain ⟨i, hi, rfl⟩ := List.mem_iff_getElem.1 hs
      exact ⟨i, hi, by rw [nth_of (List.getElem?_eq_getElem hi)]; exact hk⟩
    · rintro ⟨i, hi, hk⟩; exact ⟨_, nth_mem hi, hk⟩
  cases hb : hasF ys k a with
  | true =>
    simp only [hasF, Bool.and_eq_true, decide_eq_true_eq] at hb
    exact (hex.2 ⟨a, hb.1, (hin a hb.1).2 ⟨hb.2, by omega⟩⟩).symm
  | false =>
    cases hh : hasL ys k with
    | false => rfl
    | true =>
      exfalso
      obtain ⟨i, hi, hk⟩ := hex.1 hh
      rw [hin i hi] at hk
      have h1 : ¬ i < a := fun q => by have := p.past i q; omega
      simp only [hasF, Bool.and_eq_false_iff, decide_eq_false_iff_not] at hb
      by_cases h2 : i = a
      · subst h2; omega
      · have := hlt a i (by omega) hi
        have h3 := (right_iff (hy _ (nth_mem (show a < ys.length by omega)))).1 (hpw.1 _ (nth_mem (show a < ys.length by omega)))
        omega
theorem KeepB.pre {h h' : Heap} {x : AObj} {b : Option Nat} (k : KeepB (h.push x) h' b) : KeepB h h' b :=
  ⟨by have := k.1; simp at this; omega, fun y hy hne => by rw [k.2 y (by simp; omega) hne, Array.getElem?_push, if_neg (by omega)]⟩
theorem has_R {bf T a : Nat} {lv : Value} {ys : List Sp} {c : Int × Int} (hb : h[bf]? = some (.cells [lv, .int .i64 a] T)) (hr : SRow h lv ys) (hne : 0 < ys.length → bkV lv ≠ bf) (hf : f ≤ bf) (hl : ys.length ≤ 100000) (hy : ∀ x ∈ ys, okP x) (hc : okN c.2) (hcan : CanL ys) (p : FrontP ys (keyC c) a) :
    callR Xq ⟨f, []⟩ 127 [.pointer (some ⟨bf, 0, none⟩), .agg #[.int .i64 c.1, .int .i64 c.2]] h fun v h' => v = .bool (hasL ys (keyC c)) ∧ KeepB h h' (some bf) ∧ ∃ a' : Nat, h'[bf]? = some (.cells [lv, .int .i64 a'] T) ∧ FrontP ys (keyC c) a' := by
  refine callLo rfl f127_is fun RR hRR => ?_
  have hR := hr.R spC_len
  have hlt := hr.lt
  have hbl := ltB hb
  simp
  obtain ⟨J, hJ⟩ : ∃ J : Nat → Env → Heap → Prop, J = fun a e h' => FrontP ys (keyC c) a ∧ KeepB (h.push (.cells [.int .i64 c.1, .int .i64 c.2] 44)) h' (some bf) ∧ h'[bf]? = some (.cells [lv, .int .i64 (a : Nat)] T) := ⟨_, rfl⟩
  refine Run_while xlow [5, 6, 7, 8, 9, 10, 11, 12, 13, 14, 15, 16, 17, 18, 19, 20, 21, 22, 23, 24, 25, 26, 27, 28, 29, 30, 31, 32, 33, 34, 35, 36, 37] (by simp; omega) J (fun a => ys.length - a) a rfl (hJ ▸ ⟨p, .refl _ _, by rw [Array.getElem?_push, if_neg (by omega)]; exact hb⟩) ?_
  rintro a e h' j0 ke hl'
  rw [hJ] at j0
  obtain ⟨p, kb, hb'⟩ := j0
  have e0 : e 0 = .pointer (some ⟨bf, 0, none⟩) := by rw [ke 0 (by decide)]; simp
  have e3 : e 3 = .pointer (some ⟨h.size, 0, none⟩) := by rw [ke 3 (by decide)]; simp
  clear ke
  have s1 := kb.1
  simp at s1
  have c1 := cellsB hb'
  have hlb := ltB hb'
  have cc : h'.cellsAt h.size = some [.int .i64 c.1, .int .i64 c.2] := by rw [kb.cells (by simp) (by intro q; injection q with q; omega)]; simp
  have hm := p.le
  by_cases ha : a < ys.length
  · have hcl : h'.cellsAt (bkV lv) = some (clV h lv) := by
      have := hne (by omega)
      have := hlt (by omega)
      rw [kb.cells (by simp; omega) (by intro q; injection q with q; omega), cellsAt_push, if_neg (by omega)]; exact hR.2.2.1 (by omega)
    have hyo := hy _ (nth_mem ha)
    have k1 : decide (cmpC ((nth ys a).c, (nth ys a).d) (c.1, c.2) ≤ 0) = decide (highK (nth ys a) ≤ keyC c) := cmpC_le hyo.2 hc
    have k2 : decide (cmpC ((nth ys a).a, (nth ys a).b) (c.1, c.2) ≤ 0) = decide (lowK (nth ys a) ≤ keyC c) := cmpC_le hyo.1 hc
    by_cases hk : highK (nth ys a) ≤ keyC c
    · simp +contextual (disch := first | omega | decide | with_unfolding_all rfl) [e0, e3, c1, cc, hR, hcl, ha, RF_of (up compare_runs), spC, k1, hk, wr_def hb']
      exact .mk (a + 1) (hJ ▸ ⟨⟨by omega, fun i hi => (Nat.lt_succ_iff_lt_or_eq.1 hi).elim (p.past i) (fun q => q ▸ hk)⟩, kb.set _ (.inr rfl), by rw [Array.getElem?_setIfInBounds, if_pos rfl, if_pos hlb]; rfl⟩) (by omega)
    · have hh := hasF_eq hy hcan p (fun q => hk q.2)
      unfold hasF at hh
      simp +contextual (disch := first | omega | decide | with_unfolding_all rfl) [e0, e3, c1, cc, hR, hcl, ha, RF_of (up compare_runs), spC, k1, k2, hk]
      exact hRR _ _ ⟨by rw [← hh]; simp [ha], (KeepB.pre kb), a, hb', p⟩
  · have hh := hasF_eq hy hcan p (fun q => ha q.1)
    unfold hasF at hh
    simp +contextual (disch := first | omega | decide | with_unfolding_all rfl) [e0, e3, c1, cc, hR, ha]
    exact hRR _ _ ⟨by rw [← hh]; simp [ha], (KeepB.pre kb), a, hb', p⟩
end Go.Proofs.Ytlgbeekhaoiggaa
end
