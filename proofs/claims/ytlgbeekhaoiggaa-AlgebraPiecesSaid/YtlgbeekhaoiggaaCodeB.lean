import Derived.Test.YtlgbeekhaoiggaaCodeA
set_option linter.all false
section
namespace Go.Proofs.Ytlgbeekhaoiggaa
open Go.AM
def okN (n : Int) : Prop := -9223372036854775808 ≤ n ∧ n ≤ 9223372036854775807
def keyC (c : Int × Int) : Int := if (canon c).1 = -1 then -9223372036854775808 else if (canon c).1 = 1 then 9223372036854775808 else (canon c).2
theorem canon_cases (c : Int × Int) : (canon c = (-1, 0)) ∨ (canon c = (1, 0)) ∨ (canon c = c ∧ c.1 = 0 ∧ c.2 ≠ -9223372036854775808) := by
  unfold canon
  by_cases h1 : c.1 < 0 ∨ c.1 = 0 ∧ c.2 = -9223372036854775808
  · rw [if_pos h1]; exact .inl rfl
  · rw [if_neg h1]
    by_cases h2 : c.1 > 0
    · rw [if_pos h2]; exact .inr (.inl rfl)
    · rw [if_neg h2]; exact .inr (.inr ⟨rfl, by omega, by omega⟩)
theorem keyC_rng {c : Int × Int} (h : okN c.2) : -9223372036854775808 ≤ keyC c ∧ keyC c ≤ 9223372036854775808 := by
  unfold keyC
  rcases canon_cases c with q | q | ⟨q, q1, q2⟩ <;> rw [q]
  · simp
  · simp
  · rw [q1]; unfold okN at h; simp; omega
theorem lessC_key {a b : Int × Int} (ha : okN a.2) (hb : okN b.2) : lessC a b = decide (keyC a < keyC b) := by
  unfold okN at ha hb
  unfold lessC keyC
  rcases canon_cases a with q | q | ⟨q, q1, q2⟩ <;> rcases canon_cases b with r | r | ⟨r, r1, r2⟩ <;> rw [q, r] <;> simp [*] <;> omega
theorem key_inj {a b : Int × Int} (ha : okN a.2) (hb : okN b.2) (ca : canon a = a) (cb : canon b = b) (h : keyC a = keyC b) : a = b := by
  unfold okN at ha hb
  unfold keyC at h
  rcases canon_cases a with q | q | ⟨q, q1, q2⟩ <;> rcases canon_cases b with r | r | ⟨r, r1, r2⟩ <;> rw [q, r] at h
  · rw [← ca, ← cb, q, r]
  · simp at h
  · rw [r1] at h; simp at h; omega
  · simp at h
  · rw [← ca, ← cb, q, r]
  · rw [r1] at h; simp at h; omega
  · rw [q1] at h; simp at h; omega
  · rw [q1] at h; simp at h; omega
  · rw [q1, r1] at h; simp at h
    exact Prod.ext (by rw [q1, r1]) h
def okP (s : Sp) : Prop := okN s.b ∧ okN s.d
def lowK (s : Sp) : Int := keyC (s.a, s.b)
def highK (s : Sp) : Int := keyC (s.c, s.d)
theorem right_iff {s : Sp} (h : okP s) : s.right = true ↔ canon (s.a, s.b) = (s.a, s.b) ∧ canon (s.c, s.d) = (s.c, s.d) ∧ lowK s < highK s := by
  unfold Sp.right rightS rightC
  rw [lessC_key h.1 h.2]
  simp only [Bool.and_eq_true, beq_iff_eq, decide_eq_true_eq]
  constructor
  · rintro ⟨⟨⟨h1, h2⟩, h3, h4⟩, h5⟩
    exact ⟨Prod.ext h1 h2, Prod.ext h3 h4, h5⟩
  · rintro ⟨h1, h2, h3⟩
    exact ⟨⟨⟨by rw [h1], by rw [h1]⟩, by rw [h2], by rw [h2]⟩, h3⟩
def inS (s : Sp) (n : Int) : Prop := s.right = true ∧ lowK s ≤ n ∧ n < highK s
def inL (xs : List Sp) (n : Int) : Prop := ∃ s ∈ xs, inS s n
def CanL : List Sp → Prop
  | [] => True
  | [s] => s.right = true
  | s :: t :: r => s.right = true ∧ highK s < lowK t ∧ CanL (t :: r)
theorem CanL.right : ∀ {xs : List Sp}, CanL xs → ∀ s ∈ xs, s.right = true
  | [], _, s, hs => by simp at hs
  | [x], h, s, hs => by simp at hs; subst hs; exact h
  | x :: y :: r, h, s, hs => by
    rcases List.mem_cons.1 hs with rfl | q
    · exact h.1
    · exact CanL.right h.2.2 s q
theorem CanL.tail {s : Sp} : ∀ {xs : List Sp}, CanL (s :: xs) → CanL xs
  | [], _ => trivial
  | _ :: _, h => h.2.2
theorem CanL.above {s : Sp} : ∀ {xs : List Sp}, (∀ x ∈ s :: xs, okP x) → CanL (s :: xs) → ∀ t ∈ xs, highK s < lowK t
  | [], _, _, t, ht => by simp at ht
  | x :: xs, hok, h, t, ht => by
    rcases List.mem_cons.1 ht with rfl | q
    · exact h.2.1
    · have h1 := CanL.above (fun y hy => hok y (by simp at hy ⊢; exact .inr hy)) h.2.2 t q
      have hx := (right_iff (hok x (by simp))).1 (CanL.right h.2.2 x (by simp))
      have := h.2.1
      omega
theorem canL_eq : ∀ {xs ys : List Sp}, (∀ x ∈ xs, okP x) → (∀ y ∈ ys, okP y) → CanL xs → CanL ys → (∀ n, inL xs n ↔ inL ys n) → xs = ys
  | [], [], _, _, _, _, _ => rfl
  | [], t :: ys, _, hy, _, cy, h => by
    have ht := CanL.right cy t (by simp)
    have := (right_iff (hy t (by simp))).1 ht
    obtain ⟨s, hs, _⟩ := (h (lowK t)).2 ⟨t, by simp, ht, Int.le_refl _, this.2.2⟩
    simp at hs
  | s :: xs, [], hx, _, cx, _, h => by
    have hs := CanL.right cx s (by simp)
    have := (right_iff (hx s (by simp))).1 hs
    obtain ⟨t, ht, _⟩ := (h (lowK s)).1 ⟨s, by simp, hs, Int.le_refl _, this.2.2⟩
    simp at ht
  | s :: xs, t :: ys, hx, hy, cx, cy, h => by
    have hsr := CanL.right cx s (by simp)
    have htr := CanL.right cy t (by simp)
    obtain ⟨s1, s2, s3⟩ := (right_iff (hx s (by simp))).1 hsr
    obtain ⟨t1, t2, t3⟩ := (right_iff (hy t (by simp))).1 htr
    have ax := CanL.above hx cx
    have ay := CanL.above hy cy
    -- what stands in a row stands not below its first one
    have lowx : ∀ n, inL (s :: xs) n → lowK s ≤ n := by
      rintro n ⟨u, hu, _, h1, _⟩
      rcases List.mem_cons.1 hu with rfl | q
      · exact h1
      · have := ax u q; omega
    have lowy : ∀ n, inL (t :: ys) n → lowK t ≤ n := by
      rintro n ⟨u, hu, _, h1, _⟩
      rcases List.mem_cons.1 hu with rfl | q
      · exact h1
      · have := ay u q; omega
    have e1 : lowK s = lowK t := by
      have q1 := lowy _ ((h (lowK s)).1 ⟨s, by simp, hsr, Int.le_refl _, s3⟩)
      have q2 := lowx _ ((h (lowK t)).2 ⟨t, by simp, htr, Int.le_refl _, t3⟩)
      omega
    have gapx : ¬ inL (s :: xs) (highK s) := by
      rintro ⟨u, hu, _, h1, h2⟩
      rcases List.mem_cons.1 hu with rfl | q
      · omega
      · have := ax u q; omega
    have gapy : ¬ inL (t :: ys) (highK t) := by
      rintro ⟨u, hu, _, h1, h2⟩
      rcases List.mem_cons.1 hu with rfl | q
      · omega
      · have := ay u q; omega
    have e2 : highK s = highK t := by
      rcases Int.lt_trichotomy (highK s) (highK t) with q | q | q
      · exact absurd ((h _).2 ⟨t, by simp, htr, by omega, q⟩) gapx
      · exact q
      · exact absurd ((h _).1 ⟨s, by simp, hsr, by omega, q⟩) gapy
    have est : s = t := by
      have f1 := key_inj (hx s (by simp)).1 (hy t (by simp)).1 s1 t1 e1
      have f2 := key_inj (hx s (by simp)).2 (hy t (by simp)).2 s2 t2 e2
      obtain ⟨a, b, c, d⟩ := s
      obtain ⟨a', b', c', d'⟩ := t
      injection f1 with g1 g2
      injection f2 with g3 g4
      simp only at g1 g2 g3 g4
      subst g1 g2 g3 g4; rfl
    subst est
    congr 1
    refine canL_eq (fun x q => hx x (by simp [q])) (fun y q => hy y (by simp [q])) cx.tail cy.tail fun n => ⟨?_, ?_⟩
    · rintro ⟨u, hu, h0, h1, h2⟩
      obtain ⟨w, hw, h3, h4, h5⟩ := (h n).1 ⟨u, by simp [hu], h0, h1, h2⟩
      rcases List.mem_cons.1 hw with rfl | q
      · have := ax u hu; omega
      · exact ⟨w, q, h3, h4, h5⟩
    · rintro ⟨u, hu, h0, h1, h2⟩
      obtain ⟨w, hw, h3, h4, h5⟩ := (h n).2 ⟨u, by simp [hu], h0, h1, h2⟩
      rcases List.mem_cons.1 hw with rfl | q
      · have := ay u hu; omega
      · exact ⟨w, q, h3, h4, h5⟩
end Go.Proofs.Ytlgbeekhaoiggaa
end

section
namespace Go.Proofs.Ytlgbeekhaoiggaa
open Go.AM
theorem canL_pw : ∀ {xs : List Sp}, (∀ x ∈ xs, okP x) → (CanL xs ↔ (∀ s ∈ xs, s.right = true) ∧ xs.Pairwise fun s t => highK s < lowK t)
  | [], _ => by simp [CanL]
  | s :: xs, hok => by
    have ih := canL_pw (xs := xs) fun x hx => hok x (by simp [hx])
    constructor
    · intro h
      refine ⟨CanL.right h, List.pairwise_cons.2 ⟨CanL.above hok h, (ih.1 h.tail).2⟩⟩
    · rintro ⟨h1, h2⟩
      obtain ⟨h3, h4⟩ := List.pairwise_cons.1 h2
      have h5 := ih.2 ⟨fun x hx => h1 x (by simp [hx]), h4⟩
      cases xs with
      | nil => exact h1 s (by simp)
      | cons t r => exact ⟨h1 s (by simp), h3 t (by simp), h5⟩
def putJ (out : List Sp) (s : Sp) : List Sp :=
  match out.getLast? with
  | some t => if t.c = s.a ∧ t.d = s.b then out.dropLast ++ [⟨t.a, t.b, s.c, s.d⟩] else out ++ [s]
  | none => out ++ [s]
structure Put (out : List Sp) (top : Int) : Prop where
  ok : ∀ x ∈ out, okP x
  rt : ∀ x ∈ out, x.right = true
  pw : out.Pairwise fun s t => highK s < lowK t
  le : ∀ x ∈ out, highK x ≤ top
theorem Put.can {out : List Sp} {top : Int} (p : Put out top) : CanL out := (canL_pw p.ok).2 ⟨p.rt, p.pw⟩
theorem Put.nil (top : Int) : Put [] top := ⟨by simp, by simp, .nil, by simp⟩
theorem inL_app {xs ys : List Sp} {n : Int} : inL (xs ++ ys) n ↔ inL xs n ∨ inL ys n := by
  unfold inL
  constructor
  · rintro ⟨s, hs, h⟩
    rcases List.mem_append.1 hs with q | q
    · exact .inl ⟨s, q, h⟩
    · exact .inr ⟨s, q, h⟩
  · rintro (⟨s, hs, h⟩ | ⟨s, hs, h⟩)
    · exact ⟨s, by simp [hs], h⟩
    · exact ⟨s, by simp [hs], h⟩
theorem inL_one {s : Sp} {n : Int} : inL [s] n ↔ inS s n := by unfold inL; simp
theorem putJ_ok {out : List Sp} {s : Sp} {top : Int} (p : Put out top) (hs : okP s) (hr : s.right = true) (ht : top ≤ lowK s) :
    Put (putJ out s) (highK s) ∧ ∀ n, inL (putJ out s) n ↔ inL out n ∨ inS s n := by
  obtain ⟨s1, s2, s3⟩ := (right_iff hs).1 hr
  have plain : (∀ t ∈ out, highK t < lowK s) → Put (out ++ [s]) (highK s) ∧ ∀ n, inL (out ++ [s]) n ↔ inL out n ∨ inS s n := by
    intro h
    refine ⟨⟨?_, ?_, ?_, ?_⟩, fun n => by rw [inL_app, inL_one]⟩
    · intro x hx; rcases List.mem_append.1 hx with q | q
      · exact p.ok x q
      · simp at q; subst q; exact hs
    · intro x hx; rcases List.mem_append.1 hx with q | q
      · exact p.rt x q
      · simp at q; subst q; exact hr
    · rw [List.pairwise_append]
      exact ⟨p.pw, by simp, fun a ha b hb => by simp at hb; subst hb; exact h a ha⟩
    · intro x hx; rcases List.mem_append.1 hx with q | q
      · have := p.le x q; omega
      · simp at q; subst q; exact Int.le_refl _
  unfold putJ
  cases hl : out.getLast? with
  | none =>
    have : out = [] := List.getLast?_eq_none_iff.1 hl
    subst this
    exact plain (by simp)
  | some t =>
    obtain ⟨ys, rfl⟩ := List.getLast?_eq_some_iff.1 hl
    have ptok := p.ok t (by simp)
    have ptrt := p.rt t (by simp)
    obtain ⟨t1, t2, t3⟩ := (right_iff ptok).1 ptrt
    have pw := List.pairwise_append.1 p.pw
    have hlt : highK t ≤ top := p.le t (by simp)
    simp only
    by_cases he : t.c = s.a ∧ t.d = s.b
    · rw [if_pos he, List.dropLast_concat]
      have hk : highK t = lowK s := by unfold highK lowK; rw [he.1, he.2]
      obtain ⟨u, hu⟩ : ∃ u : Sp, (⟨t.a, t.b, s.c, s.d⟩ : Sp) = u := ⟨_, rfl⟩
      have hul : lowK u = lowK t := by rw [← hu]; rfl
      have huh : highK u = highK s := by rw [← hu]; rfl
      have huo : okP u := by rw [← hu]; exact ⟨ptok.1, hs.2⟩
      have hur : u.right = true := (right_iff huo).2 (by rw [← hu]; exact ⟨t1, s2, by show lowK t < highK s; omega⟩)
      rw [hu]
      refine ⟨⟨?_, ?_, ?_, ?_⟩, fun n => ?_⟩
      · intro x hx; rcases List.mem_append.1 hx with q | q
        · exact p.ok x (by simp [q])
        · simp at q; subst q; exact huo
      · intro x hx; rcases List.mem_append.1 hx with q | q
        · exact p.rt x (by simp [q])
        · simp at q; subst q; exact hur
      · rw [List.pairwise_append]
        exact ⟨pw.1, by simp, fun a ha b hb => by simp at hb; subst hb; rw [hul]; exact pw.2.2 a ha t (by simp)⟩
      · intro x hx; rcases List.mem_append.1 hx with q | q
        · have := p.le x (by simp [q]); omega
        · simp at q; subst q; omega
      · rw [inL_app, inL_one, inL_app, inL_one]
        unfold inS
        rw [hul, huh]
        constructor
        · rintro (q | ⟨_, q1, q2⟩)
          · exact .inl (.inl q)
          · by_cases hn : n < highK t
            · exact .inl (.inr ⟨ptrt, q1, hn⟩)
            · exact .inr ⟨hr, by omega, q2⟩
        · rintro ((q | ⟨_, q1, q2⟩) | ⟨_, q1, q2⟩)
          · exact .inl q
          · exact .inr ⟨hur, q1, by omega⟩
          · exact .inr ⟨hur, by omega, q2⟩
    · rw [if_neg he]
      refine plain fun x hx => ?_
      rcases List.mem_append.1 hx with q | q
      · have := pw.2.2 x q t (by simp); omega
      · simp at q; subst q
        have hne : highK x ≠ lowK s := fun e => he (by
          have := key_inj ptok.2 hs.1 t2 s1 e
          injection this with q1 q2; exact ⟨q1, q2⟩)
        omega
theorem foldJ : ∀ (ps : List Sp) (out : List Sp) (top : Int), Put out top → (∀ s ∈ ps, okP s ∧ s.right = true) → (ps.Pairwise fun s t => highK s ≤ lowK t) → (∀ s ∈ ps, top ≤ lowK s) →
    (∃ top', Put (ps.foldl putJ out) top') ∧ ∀ n, inL (ps.foldl putJ out) n ↔ inL out n ∨ inL ps n
  | [], out, top, p, _, _, _ => ⟨⟨top, p⟩, fun n => by simp [inL]⟩
  | s :: ps, out, top, p, hs, hw, ht => by
    obtain ⟨q1, q2⟩ := putJ_ok p (hs s (by simp)).1 (hs s (by simp)).2 (ht s (by simp))
    obtain ⟨w1, w2⟩ := List.pairwise_cons.1 hw
    obtain ⟨r1, r2⟩ := foldJ ps (putJ out s) (highK s) q1 (fun x hx => hs x (by simp [hx])) w2 w1
    refine ⟨r1, fun n => ?_⟩
    rw [List.foldl_cons, r2, q2, show s :: ps = [s] ++ ps from rfl, inL_app, inL_one, or_assoc]
end Go.Proofs.Ytlgbeekhaoiggaa
end

section
namespace Go.Proofs.Ytlgbeekhaoiggaa
open Go.AM
def pieces (p : Int → Bool) : List (Int × Int) → List Sp
  | [] => []
  | [_] => []
  | c :: d :: r => (if p (keyC c) = true then [⟨c.1, c.2, d.1, d.2⟩] else []) ++ pieces p (d :: r)
structure Rise (cs : List (Int × Int)) : Prop where
  ok : ∀ c ∈ cs, okN c.2 ∧ canon c = c
  up : cs.Pairwise fun c d => keyC c < keyC d
theorem Rise.tail {c : Int × Int} {cs : List (Int × Int)} (h : Rise (c :: cs)) : Rise cs := ⟨fun x hx => h.ok x (by simp [hx]), (List.pairwise_cons.1 h.up).2⟩
theorem Rise.head {c : Int × Int} {cs : List (Int × Int)} (h : Rise (c :: cs)) : ∀ d ∈ cs, keyC c < keyC d := (List.pairwise_cons.1 h.up).1
theorem pieces_ok (p : Int → Bool) : ∀ {cs : List (Int × Int)}, Rise cs → (∀ s ∈ pieces p cs, okP s ∧ s.right = true) ∧ (pieces p cs).Pairwise (fun s t => highK s ≤ lowK t) ∧ ∀ s ∈ pieces p cs, ∀ c, cs.head? = some c → keyC c ≤ lowK s
  | [], _ => by simp [pieces]
  | [c], _ => by simp [pieces]
  | c :: d :: r, h => by
    obtain ⟨i1, i2, i3⟩ := pieces_ok p (cs := d :: r) h.tail
    have hcd := h.head d (by simp)
    obtain ⟨c1, c2⟩ := h.ok c (by simp)
    obtain ⟨d1, d2⟩ := h.ok d (by simp)
    have hs : okP (⟨c.1, c.2, d.1, d.2⟩ : Sp) ∧ (⟨c.1, c.2, d.1, d.2⟩ : Sp).right = true := ⟨⟨c1, d1⟩, (right_iff ⟨c1, d1⟩).2 ⟨c2, d2, hcd⟩⟩
    have hlow : ∀ s ∈ pieces p (d :: r), keyC d ≤ lowK s := fun s q => i3 s q d rfl
    unfold pieces
    split
    · refine ⟨?_, ?_, ?_⟩
      · intro s q
        rcases List.mem_cons.1 q with rfl | q
        · exact hs
        · exact i1 s q
      · exact List.pairwise_cons.2 ⟨fun t q => hlow t q, i2⟩
      · intro s q e he
        cases he
        rcases List.mem_cons.1 q with rfl | q
        · exact Int.le_refl _
        · have := hlow s q; omega
    · refine ⟨i1, i2, ?_⟩
      intro s q e he
      cases he
      have := hlow s q; omega
def gapK (xs : List Sp) (c d : Int × Int) : Prop := ∀ s ∈ xs, s.right = true → (lowK s ≤ keyC c ∨ keyC d ≤ lowK s) ∧ (highK s ≤ keyC c ∨ keyC d ≤ highK s)
def Gaps (xs : List Sp) : List (Int × Int) → Prop
  | [] => True
  | [_] => True
  | c :: d :: r => gapK xs c d ∧ Gaps xs (d :: r)
def among (xs : List Sp) (cs : List (Int × Int)) : Prop := ∀ s ∈ xs, s.right = true → ((s.a, s.b) ∈ cs ∨ ∀ c ∈ cs, lowK s < keyC c) ∧ ((s.c, s.d) ∈ cs ∨ ∀ c ∈ cs, highK s < keyC c)
theorem gaps_of {xs : List Sp} : ∀ {cs : List (Int × Int)}, Rise cs → among xs cs → Gaps xs cs
  | [], _, _ => trivial
  | [_], _, _ => trivial
  | c :: d :: r, h, ha => by
    have hcd := h.head
    have hd := h.tail.head
    have key : ∀ e : Int × Int, (e ∈ c :: d :: r ∨ ∀ x ∈ c :: d :: r, keyC e < keyC x) → (keyC e ≤ keyC c ∨ keyC d ≤ keyC e) ∧ (e ∈ d :: r ∨ ∀ x ∈ d :: r, keyC e < keyC x) := by
      rintro e (q | q)
      · rcases List.mem_cons.1 q with rfl | q
        · exact ⟨.inl (Int.le_refl _), .inr hcd⟩
        · refine ⟨.inr ?_, .inl q⟩
          rcases List.mem_cons.1 q with rfl | q
          · exact Int.le_refl _
          · have := hd e q; omega
      · exact ⟨.inl (by have := q c (by simp); omega), .inr fun x hx => q x (by simp at hx ⊢; exact .inr hx)⟩
    refine ⟨fun s hs hr => ?_, gaps_of h.tail fun s hs hr => ?_⟩
    · obtain ⟨q1, q2⟩ := ha s hs hr
      exact ⟨(key (s.a, s.b) q1).1, (key (s.c, s.d) q2).1⟩
    · obtain ⟨q1, q2⟩ := ha s hs hr
      exact ⟨(key (s.a, s.b) q1).2, (key (s.c, s.d) q2).2⟩
instance (s : Sp) (n : Int) : Decidable (inS s n) := by unfold inS; infer_instance
def hasL (xs : List Sp) (n : Int) : Bool := xs.any fun s => decide (inS s n)
theorem hasL_iff {xs : List Sp} {n : Int} : hasL xs n = true ↔ inL xs n := by unfold hasL inL; simp
theorem hasL_gap {xs : List Sp} {c d : Int × Int} {n : Int} (h : gapK xs c d) (h1 : keyC c ≤ n) (h2 : n < keyC d) : hasL xs n = hasL xs (keyC c) := by
  rw [Bool.eq_iff_iff, hasL_iff, hasL_iff]
  constructor
  · rintro ⟨s, hs, hr, q1, q2⟩
    obtain ⟨g1, g2⟩ := h s hs hr
    exact ⟨s, hs, hr, by omega, by omega⟩
  · rintro ⟨s, hs, hr, q1, q2⟩
    obtain ⟨g1, g2⟩ := h s hs hr
    exact ⟨s, hs, hr, by omega, by omega⟩
def Flat (p : Int → Bool) : List (Int × Int) → Prop
  | [] => True
  | [_] => True
  | c :: d :: r => (∀ n, keyC c ≤ n → n < keyC d → p n = p (keyC c)) ∧ Flat p (d :: r)
theorem flat_of {p : Int → Bool} {xs ys : List Sp} (hp : ∀ n m, hasL xs n = hasL xs m → hasL ys n = hasL ys m → p n = p m) : ∀ {cs : List (Int × Int)}, Gaps xs cs → Gaps ys cs → Flat p cs
  | [], _, _ => trivial
  | [_], _, _ => trivial
  | c :: d :: r, h1, h2 => ⟨fun n q1 q2 => hp n _ (hasL_gap h1.1 q1 q2) (hasL_gap h2.1 q1 q2), flat_of hp h1.2 h2.2⟩
theorem pieces_in (p : Int → Bool) : ∀ {cs : List (Int × Int)}, Rise cs → Flat p cs → ∀ n, inL (pieces p cs) n ↔ p n = true ∧ (∃ c ∈ cs, keyC c ≤ n) ∧ ∃ d ∈ cs, n < keyC d
  | [], _, _, n => by simp [pieces, inL]
  | [c], _, _, n => by simp [pieces, inL]
  | c :: d :: r, h, hf, n => by
    have ih := pieces_in p h.tail hf.2 n
    have hcd := h.head d (by simp)
    obtain ⟨c1, c2⟩ := h.ok c (by simp)
    obtain ⟨d1, d2⟩ := h.ok d (by simp)
    have hr : (⟨c.1, c.2, d.1, d.2⟩ : Sp).right = true := (right_iff ⟨c1, d1⟩).2 ⟨c2, d2, hcd⟩
    have hone : inS (⟨c.1, c.2, d.1, d.2⟩ : Sp) n ↔ keyC c ≤ n ∧ n < keyC d := ⟨fun q => ⟨q.2.1, q.2.2⟩, fun q => ⟨hr, q.1, q.2⟩⟩
    have e : inL (pieces p (c :: d :: r)) n ↔ (p (keyC c) = true ∧ keyC c ≤ n ∧ n < keyC d) ∨ inL (pieces p (d :: r)) n := by
      rw [pieces, inL_app]
      split
      · rename_i hp; rw [inL_one, hone]; simp [hp]
      · rename_i hp; simp [hp, inL]
    rw [e, ih]
    have hdr := h.tail.head
    constructor
    · rintro (⟨q1, q2, q3⟩ | ⟨q1, ⟨x, hx, q2⟩, y, hy, q3⟩)
      · exact ⟨by rw [hf.1 n q2 q3]; exact q1, ⟨c, by simp, q2⟩, d, by simp, q3⟩
      · exact ⟨q1, ⟨x, by simp at hx ⊢; exact .inr hx, q2⟩, y, by simp at hy ⊢; exact .inr hy, q3⟩
    · rintro ⟨q1, ⟨x, hx, q2⟩, y, hy, q3⟩
      by_cases hn : n < keyC d
      · have hcn : keyC c ≤ n := by
          rcases List.mem_cons.1 hx with rfl | q
          · exact q2
          · rcases List.mem_cons.1 q with rfl | q
            · omega
            · have := hdr x q; omega
        exact .inl ⟨by rw [← hf.1 n hcn hn]; exact q1, hcn, hn⟩
      · right
        refine ⟨q1, ⟨d, by simp, by omega⟩, y, ?_, q3⟩
        rcases List.mem_cons.1 hy with rfl | q
        · omega
        · exact q
end Go.Proofs.Ytlgbeekhaoiggaa
end

section
namespace Go.Proofs.Ytlgbeekhaoiggaa
open Go.AM
def joinP (ps : List Sp) : List Sp := ps.foldl putJ []
def holdsC (xs : List Sp) (cs : List (Int × Int)) : Prop := ∀ s ∈ xs, s.right = true → (s.a, s.b) ∈ cs ∧ (s.c, s.d) ∈ cs
theorem holdsC.among {xs : List Sp} {cs : List (Int × Int)} (h : holdsC xs cs) : among xs cs := fun s hs hr => ⟨.inl (h s hs hr).1, .inl (h s hs hr).2⟩
theorem joinP_pieces {p : Int → Bool} {cs : List (Int × Int)} (h : Rise cs) (hf : Flat p cs) : (∀ x ∈ joinP (pieces p cs), okP x) ∧ CanL (joinP (pieces p cs)) ∧ ∀ n, inL (joinP (pieces p cs)) n ↔ p n = true ∧ (∃ c ∈ cs, keyC c ≤ n) ∧ ∃ d ∈ cs, n < keyC d := by
  obtain ⟨q1, q2, q3⟩ := pieces_ok p h
  obtain ⟨⟨top, r1⟩, r2⟩ := foldJ (pieces p cs) [] (-9223372036854775808) (Put.nil _) q1 q2 (fun s hs => (keyC_rng (q1 s hs).1.1).1)
  refine ⟨r1.ok, r1.can, fun n => ?_⟩
  unfold joinP
  rw [r2, pieces_in p h hf]
  simp [inL]
theorem holdsC.bounds {xs : List Sp} {cs : List (Int × Int)} (h : holdsC xs cs) {n : Int} (hn : inL xs n) : (∃ c ∈ cs, keyC c ≤ n) ∧ ∃ d ∈ cs, n < keyC d := by
  obtain ⟨s, hs, hr, q1, q2⟩ := hn
  obtain ⟨c1, c2⟩ := h s hs hr
  exact ⟨⟨_, c1, q1⟩, _, c2, q2⟩
theorem two_pieces {p : Bool → Bool → Bool} {xs ys : List Sp} {cs : List (Int × Int)} (h : Rise cs) (hx : holdsC xs cs) (hy : holdsC ys cs) (hp : p false false = false) :
    (∀ x ∈ joinP (pieces (fun n => p (hasL xs n) (hasL ys n)) cs), okP x) ∧ CanL (joinP (pieces (fun n => p (hasL xs n) (hasL ys n)) cs)) ∧
    ∀ n, inL (joinP (pieces (fun n => p (hasL xs n) (hasL ys n)) cs)) n ↔ p (hasL xs n) (hasL ys n) = true := by
  obtain ⟨q1, q2, q3⟩ := joinP_pieces (p := fun n => p (hasL xs n) (hasL ys n)) h (flat_of (xs := xs) (ys := ys) (fun n m e1 e2 => by rw [e1, e2]) (gaps_of h hx.among) (gaps_of h hy.among))
  refine ⟨q1, q2, fun n => ?_⟩
  rw [q3]
  constructor
  · exact fun q => q.1
  · intro q
    refine ⟨q, ?_⟩
    by_cases h1 : hasL xs n = true
    · exact hx.bounds (hasL_iff.1 h1)
    · by_cases h2 : hasL ys n = true
      · exact hy.bounds (hasL_iff.1 h2)
      · have e1 : hasL xs n = false := by simpa using h1
        have e2 : hasL ys n = false := by simpa using h2
        rw [e1, e2, hp] at q; cases q
theorem one_pieces {xs : List Sp} {cs : List (Int × Int)} (h : Rise cs) (hx : holdsC xs cs) :
    (∀ x ∈ joinP (pieces (hasL xs) cs), okP x) ∧ CanL (joinP (pieces (hasL xs) cs)) ∧ ∀ n, inL (joinP (pieces (hasL xs) cs)) n ↔ inL xs n := by
  have := two_pieces (p := fun x _ => x) (ys := xs) h hx hx rfl
  refine ⟨this.1, this.2.1, fun n => ?_⟩
  rw [← hasL_iff (xs := xs)]
  exact this.2.2 n
theorem rise_eq : ∀ {cs ds : List (Int × Int)}, Rise cs → Rise ds → (∀ c, c ∈ cs ↔ c ∈ ds) → cs = ds
  | [], [], _, _, _ => rfl
  | [], d :: ds, _, _, h => absurd ((h d).2 (by simp)) (by simp)
  | c :: cs, [], _, _, h => absurd ((h c).1 (by simp)) (by simp)
  | c :: cs, d :: ds, h1, h2, h => by
    have e : c = d := by
      rcases List.mem_cons.1 ((h c).1 (by simp)) with q | q
      · exact q
      · rcases List.mem_cons.1 ((h d).2 (by simp)) with r | r
        · exact r.symm
        · have := h1.head d r; have := h2.head c q; omega
    subst e
    congr 1
    refine rise_eq h1.tail h2.tail fun x => ⟨fun q => ?_, fun q => ?_⟩
    · rcases List.mem_cons.1 ((h x).1 (by simp [q])) with r | r
      · subst r; have := h1.head x q; omega
      · exact r
    · rcases List.mem_cons.1 ((h x).2 (by simp [q])) with r | r
      · subst r; have := h2.head x q; omega
      · exact r
end Go.Proofs.Ytlgbeekhaoiggaa
end

section
namespace Go.Proofs.Ytlgbeekhaoiggaa
open Go.AM
set_option maxHeartbeats 4000000
variable {f : Nat} {h : Heap}
abbrev spW (x : Sp) : Value := .agg #[.int .i64 x.a, .int .i64 x.b, .int .i64 x.c, .int .i64 x.d]
def nextN (c : Int × Int) : Int × Bool := if (canon c).1 > 0 then (0, false) else if (canon c).1 < 0 then (-9223372036854775808, true) else ((canon c).2, true)
theorem next_runs {a b : Int} : Runs X ⟨f, []⟩ 74 [.agg #[.int .i64 a, .int .i64 b]] h (.tuple #[.int .i64 (nextN (a, b)).1, .bool (nextN (a, b)).2]) h := by
  refine Runs_of rfl f74_is ?_
  simp only [f74r0, f74r1, f74r2, f74r3, f74r4, f74r5, f74r6, f74b]
  by_cases h1 : (canon (a, b)).1 > 0
  · have e : nextN (a, b) = (0, false) := by unfold nextN; rw [if_pos h1]
    rw [e]
    repeat' (first
 | refine za ?_ | refine zb ?_ | refine zc ?_ | refine zd ?_ | refine ze ?_ | refine zf ?_ | refine zg ?_ | refine zh ?_ | (refine zi ?_; try refine RgD_plain rfl ?_) | refine w_drawn rfl ?_ | refine zj ?_ | refine zl ?_
 | ((first | apply zs | (apply zt; (focus rfl)) | (apply zu; (focus rfl)) | (apply zv; (focus rfl)) | apply zw | apply zx | apply zy | apply zB | apply zC | apply zD | apply zE | apply zF); (focus ((conv => lhs; simp (disch := omega) [-env0_get, bound, List.getElem?_cons_zero, List.getElem?_cons_succ, odt, odf, oip, oin, obt, obf, ont, onf, wrapI, owu, ow8, ow32, otd, oe0, oe1, oe2, oe3, oe4, oe5, oe6, otn, ot1, ot2, ot4]); first | done | rfl)); first | apply zk | (apply zn; (focus rfl); try (focus (first | rfl | (simp; done)))) | (apply zo; (focus rfl)) | apply gv_u | apply gv_tt | apply gv_ff | apply gv_ft | apply gv_tf | (apply gv_split <;> intro hc <;> try simp only [decide_eq_true_eq, decide_eq_false_iff_not, beq_iff_eq, beq_eq_false_iff_ne, bne_iff_ne, bne_eq_false_iff_eq, Bool.not_true, Bool.not_false, ne_eq] at hc) | exact canon2_runs)
 | (simp (disch := omega) only [thenQ_normal, thenQ_exit, thenQ_ret, blockQ_normal, blockQ_ret, blockQ_exit_same, blockQ_exit_ne]))
  · by_cases h2 : (canon (a, b)).1 < 0
    · have e : nextN (a, b) = (-9223372036854775808, true) := by unfold nextN; rw [if_neg h1, if_pos h2]
      rw [e]
      repeat' (first
 | refine za ?_ | refine zb ?_ | refine zc ?_ | refine zd ?_ | refine ze ?_ | refine zf ?_ | refine zg ?_ | refine zh ?_ | (refine zi ?_; try refine RgD_plain rfl ?_) | refine w_drawn rfl ?_ | refine zj ?_ | refine zl ?_
 | ((first | apply zs | (apply zt; (focus rfl)) | (apply zu; (focus rfl)) | (apply zv; (focus rfl)) | apply zw | apply zx | apply zy | apply zB | apply zC | apply zD | apply zE | apply zF); (focus ((conv => lhs; simp (disch := omega) [-env0_get, bound, List.getElem?_cons_zero, List.getElem?_cons_succ, odt, odf, oip, oin, obt, obf, ont, onf, wrapI, owu, ow8, ow32, otd, oe0, oe1, oe2, oe3, oe4, oe5, oe6, otn, ot1, ot2, ot4]); first | done | rfl)); first | apply zk | (apply zn; (focus rfl); try (focus (first | rfl | (simp; done)))) | (apply zo; (focus rfl)) | apply gv_u | apply gv_tt | apply gv_ff | apply gv_ft | apply gv_tf | (apply gv_split <;> intro hc <;> try simp only [decide_eq_true_eq, decide_eq_false_iff_not, beq_iff_eq, beq_eq_false_iff_ne, bne_iff_ne, bne_eq_false_iff_eq, Bool.not_true, Bool.not_false, ne_eq] at hc) | exact canon2_runs | exact least64_runs)
 | (simp (disch := omega) only [thenQ_normal, thenQ_exit, thenQ_ret, blockQ_normal, blockQ_ret, blockQ_exit_same, blockQ_exit_ne]))
    · have e : nextN (a, b) = ((canon (a, b)).2, true) := by unfold nextN; rw [if_neg h1, if_neg h2]
      rw [e]
      repeat' (first
 | refine za ?_ | refine zb ?_ | refine zc ?_ | refine zd ?_ | refine ze ?_ | refine zf ?_ | refine zg ?_ | refine zh ?_ | (refine zi ?_; try refine RgD_plain rfl ?_) | refine w_drawn rfl ?_ | refine zj ?_ | refine zl ?_
 | ((first | apply zs | (apply zt; (focus rfl)) | (apply zu; (focus rfl)) | (apply zv; (focus rfl)) | apply zw | apply zx | apply zy | apply zB | apply zC | apply zD | apply zE | apply zF); (focus ((conv => lhs; simp (disch := omega) [-env0_get, bound, List.getElem?_cons_zero, List.getElem?_cons_succ, odt, odf, oip, oin, obt, obf, ont, onf, wrapI, owu, ow8, ow32, otd, oe0, oe1, oe2, oe3, oe4, oe5, oe6, otn, ot1, ot2, ot4]); first | done | rfl)); first | apply zk | (apply zn; (focus rfl); try (focus (first | rfl | (simp; done)))) | (apply zo; (focus rfl)) | apply gv_u | apply gv_tt | apply gv_ff | apply gv_ft | apply gv_tf | (apply gv_split <;> intro hc <;> try simp only [decide_eq_true_eq, decide_eq_false_iff_not, beq_iff_eq, beq_eq_false_iff_ne, bne_iff_ne, bne_eq_false_iff_eq, Bool.not_true, Bool.not_false, ne_eq] at hc) | exact canon2_runs)
 | (simp (disch := omega) only [thenQ_normal, thenQ_exit, thenQ_ret, blockQ_normal, blockQ_ret, blockQ_exit_same, blockQ_exit_ne]))
theorem nextN_key {c : Int × Int} (h : keyC c < 9223372036854775808) (ho : okN c.2) : (nextN c).1 = keyC c ∧ okN (keyC c) := by
  unfold okN at *
  unfold nextN keyC at *
  rcases canon_cases c with q | q | ⟨q, q1, q2⟩ <;> rw [q] at h ⊢
  · simp
  · simp at h
  · rw [q1] at h ⊢; simp at h ⊢; omega
theorem aheadW_runs {n : Int} : Runs X ⟨f, []⟩ 108 [.int .i64 n] h (.agg #[.int .i64 (canon (0, n)).1, .int .i64 (canon (0, n)).2]) h := by
  refine Runs_of rfl f108_is ?_
  simp only [f108r0, f108r1, f108b]
  repeat' (first
 | refine za ?_ | refine zb ?_ | refine zc ?_ | refine zd ?_ | refine ze ?_ | refine zf ?_ | refine zg ?_ | refine zh ?_ | (refine zi ?_; try refine RgD_plain rfl ?_) | refine w_drawn rfl ?_ | refine zj ?_ | refine zl ?_
 | ((first | apply zs | (apply zt; (focus rfl)) | (apply zu; (focus rfl)) | (apply zv; (focus rfl)) | apply zw | apply zx | apply zy | apply zB | apply zC | apply zD | apply zE | apply zF); (focus ((conv => lhs; simp (disch := omega) [-env0_get, bound, List.getElem?_cons_zero, List.getElem?_cons_succ, odt, odf, oip, oin, obt, obf, ont, onf, wrapI, owu, ow8, ow32, otd, oe0, oe1, oe2, oe3, oe4, oe5, oe6, otn, ot1, ot2, ot4]); first | done | rfl)); first | apply zk | (apply zn; (focus rfl); try (focus (first | rfl | (simp; done)))) | (apply zo; (focus rfl)) | apply gv_u | apply gv_tt | apply gv_ff | apply gv_ft | apply gv_tf | (apply gv_split <;> intro hc <;> try simp only [decide_eq_true_eq, decide_eq_false_iff_not, beq_iff_eq, beq_eq_false_iff_ne, bne_iff_ne, bne_eq_false_iff_eq, Bool.not_true, Bool.not_false, ne_eq] at hc) | exact canon2_runs)
 | (simp (disch := omega) only [thenQ_normal, thenQ_exit, thenQ_ret, blockQ_normal, blockQ_ret, blockQ_exit_same, blockQ_exit_ne]))
theorem key_ahead {n : Int} (h : okN n) : keyC (canon (0, n)) = n ∧ okN (canon (0, n)).2 := by
  unfold okN at *
  have e : canon (canon (0, n)) = canon (0, n) := by
    rcases canon_cases (0, n) with q | q | ⟨q, _⟩
    · rw [q]; rfl
    · rw [q]; rfl
    · rw [q, q]
  unfold keyC
  rw [e]
  rcases canon_cases (0, n) with q | q | ⟨q, q1, q2⟩
  · have : n = -9223372036854775808 := by
      by_cases hn : n = -9223372036854775808
      · exact hn
      · unfold canon at q; rw [if_neg (by simp [hn]), if_neg (by simp)] at q; injection q with q; cases q
    rw [q]; simp [this]
  · exfalso
    unfold canon at q
    split at q
    · injection q with q; cases q
    · rw [if_neg (by simp)] at q; injection q with q; cases q
  · rw [q]; simp; omega
theorem hasN_runs {s : Sp} {n : Int} (hs : okP s) (hn : okN n) : Runs X ⟨f, []⟩ 76 [spW s, .int .i64 n] h (.bool (decide (inS s n))) h := by
  obtain ⟨k1, k2⟩ := key_ahead hn
  have e1 : lessC (canon (0, n)) (s.a, s.b) = decide (n < lowK s) := by rw [lessC_key k2 hs.1, k1]; rfl
  have e2 : lessC (canon (0, n)) (s.c, s.d) = decide (n < highK s) := by rw [lessC_key k2 hs.2, k1]; rfl
  have hr : rightS s.a s.b s.c s.d = s.right := rfl
  generalize hc : canon (0, n) = c at *
  obtain ⟨ca, cb⟩ := c
  refine Runs_of rfl f76_is ?_
  simp only [f76r0, f76r1, f76r2, f76b]
  by_cases hq : s.right = true
  · by_cases h1 : n < lowK s
    · rw [show decide (inS s n) = false from decide_eq_false fun q => by have := q.2.1; omega]
      repeat' (first
 | refine za ?_ | refine zb ?_ | refine zc ?_ | refine zd ?_ | refine ze ?_ | refine zf ?_ | refine zg ?_ | refine zh ?_ | (refine zi ?_; try refine RgD_plain rfl ?_) | refine w_drawn rfl ?_ | refine zj ?_ | refine zl ?_
 | ((first | apply zs | (apply zt; (focus rfl)) | (apply zu; (focus rfl)) | (apply zv; (focus rfl)) | apply zw | apply zx | apply zy | apply zB | apply zC | apply zD | apply zE | apply zF); (focus ((conv => lhs; simp (disch := omega) [-env0_get, bound, List.getElem?_cons_zero, List.getElem?_cons_succ, odt, odf, oip, oin, obt, obf, ont, onf, wrapI, owu, ow8, ow32, otd, oe0, oe1, oe2, oe3, oe4, oe5, oe6, otn, ot1, ot2, ot4, hc, hr, hq, e1, h1]); first | done | rfl)); first | apply zk | (apply zn; (focus rfl); try (focus (first | rfl | (simp [hc, hr, hq, e1, h1]; done)))) | (apply zo; (focus rfl)) | apply gv_u | apply gv_tt | apply gv_ff | apply gv_ft | apply gv_tf | (apply gv_split <;> intro hc <;> try simp only [decide_eq_true_eq, decide_eq_false_iff_not, beq_iff_eq, beq_eq_false_iff_ne, bne_iff_ne, bne_eq_false_iff_eq, Bool.not_true, Bool.not_false, ne_eq] at hc) | exact aheadW_runs | exact rightS2_runs | exact less_runs)
 | (simp (disch := omega) only [thenQ_normal, thenQ_exit, thenQ_ret, blockQ_normal, blockQ_ret, blockQ_exit_same, blockQ_exit_ne]))
    · by_cases h2 : n < highK s
      · rw [show decide (inS s n) = true from decide_eq_true ⟨hq, by omega, h2⟩]
        repeat' (first
 | refine za ?_ | refine zb ?_ | refine zc ?_ | refine zd ?_ | refine ze ?_ | refine zf ?_ | refine zg ?_ | refine zh ?_ | (refine zi ?_; try refine RgD_plain rfl ?_) | refine w_drawn rfl ?_ | refine zj ?_ | refine zl ?_
 | ((first | apply zs | (apply zt; (focus rfl)) | (apply zu; (focus rfl)) | (apply zv; (focus rfl)) | apply zw | apply zx | apply zy | apply zB | apply zC | apply zD | apply zE | apply zF); (focus ((conv => lhs; simp (disch := omega) [-env0_get, bound, List.getElem?_cons_zero, List.getElem?_cons_succ, odt, odf, oip, oin, obt, obf, ont, onf, wrapI, owu, ow8, ow32, otd, oe0, oe1, oe2, oe3, oe4, oe5, oe6, otn, ot1, ot2, ot4, hc, hr, hq, e1, e2, h1, h2]); first | done | rfl)); first | apply zk | (apply zn; (focus rfl); try (focus (first | rfl | (simp [hc, hr, hq, e1, e2, h1, h2]; done)))) | (apply zo; (focus rfl)) | apply gv_u | apply gv_tt | apply gv_ff | apply gv_ft | apply gv_tf | (apply gv_split <;> intro hc <;> try simp only [decide_eq_true_eq, decide_eq_false_iff_not, beq_iff_eq, beq_eq_false_iff_ne, bne_iff_ne, bne_eq_false_iff_eq, Bool.not_true, Bool.not_false, ne_eq] at hc) | exact aheadW_runs | exact rightS2_runs | exact less_runs)
 | (simp (disch := omega) only [thenQ_normal, thenQ_exit, thenQ_ret, blockQ_normal, blockQ_ret, blockQ_exit_same, blockQ_exit_ne]))
      · rw [show decide (inS s n) = false from decide_eq_false fun q => by have := q.2.2; omega]
        repeat' (first
 | refine za ?_ | refine zb ?_ | refine zc ?_ | refine zd ?_ | refine ze ?_ | refine zf ?_ | refine zg ?_ | refine zh ?_ | (refine zi ?_; try refine RgD_plain rfl ?_) | refine w_drawn rfl ?_ | refine zj ?_ | refine zl ?_
 | ((first | apply zs | (apply zt; (focus rfl)) | (apply zu; (focus rfl)) | (apply zv; (focus rfl)) | apply zw | apply zx | apply zy | apply zB | apply zC | apply zD | apply zE | apply zF); (focus ((conv => lhs; simp (disch := omega) [-env0_get, bound, List.getElem?_cons_zero, List.getElem?_cons_succ, odt, odf, oip, oin, obt, obf, ont, onf, wrapI, owu, ow8, ow32, otd, oe0, oe1, oe2, oe3, oe4, oe5, oe6, otn, ot1, ot2, ot4, hc, hr, hq, e1, e2, h1, h2]); first | done | rfl)); first | apply zk | (apply zn; (focus rfl); try (focus (first | rfl | (simp [hc, hr, hq, e1, e2, h1, h2]; done)))) | (apply zo; (focus rfl)) | apply gv_u | apply gv_tt | apply gv_ff | apply gv_ft | apply gv_tf | (apply gv_split <;> intro hc <;> try simp only [decide_eq_true_eq, decide_eq_false_iff_not, beq_iff_eq, beq_eq_false_iff_ne, bne_iff_ne, bne_eq_false_iff_eq, Bool.not_true, Bool.not_false, ne_eq] at hc) | exact aheadW_runs | exact rightS2_runs | exact less_runs)
 | (simp (disch := omega) only [thenQ_normal, thenQ_exit, thenQ_ret, blockQ_normal, blockQ_ret, blockQ_exit_same, blockQ_exit_ne]))
  · have hq' : s.right = false := by simpa using hq
    rw [show decide (inS s n) = false from decide_eq_false fun q => hq q.1]
    repeat' (first
 | refine za ?_ | refine zb ?_ | refine zc ?_ | refine zd ?_ | refine ze ?_ | refine zf ?_ | refine zg ?_ | refine zh ?_ | (refine zi ?_; try refine RgD_plain rfl ?_) | refine w_drawn rfl ?_ | refine zj ?_ | refine zl ?_
 | ((first | apply zs | (apply zt; (focus rfl)) | (apply zu; (focus rfl)) | (apply zv; (focus rfl)) | apply zw | apply zx | apply zy | apply zB | apply zC | apply zD | apply zE | apply zF); (focus ((conv => lhs; simp (disch := omega) [-env0_get, bound, List.getElem?_cons_zero, List.getElem?_cons_succ, odt, odf, oip, oin, obt, obf, ont, onf, wrapI, owu, ow8, ow32, otd, oe0, oe1, oe2, oe3, oe4, oe5, oe6, otn, ot1, ot2, ot4, hc, hr, hq']); first | done | rfl)); first | apply zk | (apply zn; (focus rfl); try (focus (first | rfl | (simp [hc, hr, hq']; done)))) | (apply zo; (focus rfl)) | apply gv_u | apply gv_tt | apply gv_ff | apply gv_ft | apply gv_tf | (apply gv_split <;> intro hc <;> try simp only [decide_eq_true_eq, decide_eq_false_iff_not, beq_iff_eq, beq_eq_false_iff_ne, bne_iff_ne, bne_eq_false_iff_eq, Bool.not_true, Bool.not_false, ne_eq] at hc) | exact aheadW_runs | exact rightS2_runs | exact less_runs)
 | (simp (disch := omega) only [thenQ_normal, thenQ_exit, thenQ_ret, blockQ_normal, blockQ_ret, blockQ_exit_same, blockQ_exit_ne]))
theorem anyN_runs {v : Value} {xs : List Sp} {n : Int} (hr : SRow h v xs) (hl : xs.length ≤ 100000) (hx : ∀ x ∈ xs, okP x) (hn : okN n) : Runs X ⟨f, []⟩ 43 [v, .int .i64 n] h (.bool (hasL xs n)) h := by
  obtain ⟨a, c, rfl⟩ := hr.form
  refine Runs_of rfl f43_is ?_
  simp only [f43r0, f43r1, f43r2, f43r3, f43r4, f43r5, f43l6, f43r7, f43b]
  repeat' (first
 | refine za ?_ | refine zb ?_ | refine zc ?_ | refine zd ?_ | refine ze ?_ | refine zf ?_ | refine zg ?_ | refine zh ?_ | (refine zi ?_; try refine RgD_plain rfl ?_) | refine w_drawn rfl ?_ | refine zj ?_ | refine zl ?_
 | ((first | apply zs | (apply zt; (focus rfl)) | (apply zu; (focus rfl)) | (apply zv; (focus rfl)) | apply zx | apply zy | apply zB | apply zC | apply zD | apply zE | apply zF); (focus ((conv => lhs; simp (disch := omega) [-env0_get, bound, List.getElem?_cons_zero, List.getElem?_cons_succ, odt, odf, oip, oin, obt, obf, ont, onf, wrapI, owu, ow8, ow32, otd, oe0, oe1, oe2, oe3, oe4, oe5, oe6, otn, ot1, ot2, ot4]); first | done | rfl)); first | apply zk | (apply zn; (focus rfl); try (focus (first | rfl | (simp; done)))) | (apply zo; (focus rfl)) | apply gv_u | apply gv_tt | apply gv_ff | apply gv_ft | apply gv_tf | (apply gv_split <;> intro hc <;> try simp only [decide_eq_true_eq, decide_eq_false_iff_not, beq_iff_eq, beq_eq_false_iff_ne, bne_iff_ne, bne_eq_false_iff_eq, Bool.not_true, Bool.not_false, ne_eq] at hc))
 | (simp (disch := omega) only [thenQ_normal, thenQ_exit, thenQ_ret, blockQ_normal, blockQ_ret, blockQ_exit_same, blockQ_exit_ne]))
  refine w_loop (A := Nat) (fun i env h' => h = h' ∧ env 0 = .slice a xs.length c ∧ env 1 = .int .i64 n ∧ env 5 = .int .i64 (i : Nat) ∧ i ≤ xs.length ∧ hasL xs n = hasL (xs.drop i) n) (fun i => xs.length - i) (a0 := 0) ⟨rfl, by simp, by simp, by simp, by omega, rfl⟩ ?_
  rintro i env h' ⟨hh, e0, e1, e5, hi, he⟩
  subst hh
  by_cases hlt : i < xs.length
  · obtain ⟨b, o, cs, rfl, hb, hcs, hga⟩ := hr.all spC_len (by omega)
    obtain ⟨x, hxi, hd⟩ := elem_at hlt
    have hg := hga i x hxi hlt
    have hxo := hx x (List.mem_of_getElem? hxi)
    rw [hd] at he
    have hst : hasL (x :: xs.drop (i + 1)) n = (decide (inS x n) || hasL (xs.drop (i + 1)) n) := by unfold hasL; rw [List.any_cons]
    rw [hst] at he
    by_cases hin : inS x n
    · rw [decide_eq_true hin, Bool.true_or] at he
      rw [he]
      have hdt : decide (inS x n) = true := decide_eq_true hin
      repeat' (first
 | refine za ?_ | refine zb ?_ | refine zc ?_ | refine zd ?_ | refine ze ?_ | refine zf ?_ | refine zg ?_ | refine zh ?_ | (refine zi ?_; try refine RgD_plain rfl ?_) | refine w_drawn rfl ?_ | refine zj ?_ | refine zl ?_
 | ((first | apply zs | (apply zt; (focus rfl)) | (apply zu; (focus rfl)) | (apply zv; (focus rfl)) | apply zw | apply zx | apply zy | apply zB | apply zC | apply zD | apply zE | apply zF); (focus ((conv => lhs; simp (disch := omega) [-env0_get, bound, List.getElem?_cons_zero, List.getElem?_cons_succ, odt, odf, oip, oin, obt, obf, ont, onf, wrapI, owu, ow8, ow32, otd, oe0, oe1, oe2, oe3, oe4, oe5, oe6, otn, ot1, ot2, ot4, e0, e1, e5, hcs, hg, hdt, spC]); first | done | rfl)); first | apply zk | (apply zn; (focus rfl); try (focus (first | rfl | (simp [e0, e1, e5, hcs, hg, hdt, spC]; done)))) | (apply zo; (focus rfl)) | apply gv_u | apply gv_tt | apply gv_ff | apply gv_ft | apply gv_tf | (apply gv_split <;> intro hc <;> try simp only [decide_eq_true_eq, decide_eq_false_iff_not, beq_iff_eq, beq_eq_false_iff_ne, bne_iff_ne, bne_eq_false_iff_eq, Bool.not_true, Bool.not_false, ne_eq] at hc) | exact (hasN_runs hxo hn))
 | (simp (disch := omega) only [thenQ_normal, thenQ_exit, thenQ_ret, blockQ_normal, blockQ_ret, blockQ_exit_same, blockQ_exit_ne]))
    · rw [decide_eq_false hin, Bool.false_or] at he
      have hdf : decide (inS x n) = false := decide_eq_false hin
      repeat' (first
 | refine za ?_ | refine zb ?_ | refine zc ?_ | refine zd ?_ | refine ze ?_ | refine zf ?_ | refine zg ?_ | refine zh ?_ | (refine zi ?_; try refine RgD_plain rfl ?_) | refine w_drawn rfl ?_ | refine zj ?_ | refine zl ?_
 | ((first | apply zs | (apply zt; (focus rfl)) | (apply zu; (focus rfl)) | (apply zv; (focus rfl)) | apply zw | apply zx | apply zy | apply zB | apply zC | apply zD | apply zE | apply zF); (focus ((conv => lhs; simp (disch := omega) [-env0_get, bound, List.getElem?_cons_zero, List.getElem?_cons_succ, odt, odf, oip, oin, obt, obf, ont, onf, wrapI, owu, ow8, ow32, otd, oe0, oe1, oe2, oe3, oe4, oe5, oe6, otn, ot1, ot2, ot4, e0, e1, e5, hcs, hg, hdf, spC]); first | done | rfl)); first | apply zk | (apply zn; (focus rfl); try (focus (first | rfl | (simp [e0, e1, e5, hcs, hg, hdf, spC]; done)))) | (apply zo; (focus rfl)) | apply gv_u | apply gv_tt | apply gv_ff | apply gv_ft | apply gv_tf | (apply gv_split <;> intro hc <;> try simp only [decide_eq_true_eq, decide_eq_false_iff_not, beq_iff_eq, beq_eq_false_iff_ne, bne_iff_ne, bne_eq_false_iff_eq, Bool.not_true, Bool.not_false, ne_eq] at hc) | exact (hasN_runs hxo hn))
 | (simp (disch := omega) only [thenQ_normal, thenQ_exit, thenQ_ret, blockQ_normal, blockQ_ret, blockQ_exit_same, blockQ_exit_ne]))
      exact ⟨i + 1, ⟨by trivial, by simp [e0], by simp [e1], by simp, by omega, he⟩, by omega⟩
  · rw [List.drop_eq_nil_of_le (by omega)] at he
    rw [he]
    repeat' (first
 | refine za ?_ | refine zb ?_ | refine zc ?_ | refine zd ?_ | refine ze ?_ | refine zf ?_ | refine zg ?_ | refine zh ?_ | (refine zi ?_; try refine RgD_plain rfl ?_) | refine w_drawn rfl ?_ | refine zj ?_ | refine zl ?_
 | ((first | apply zs | (apply zt; (focus rfl)) | (apply zu; (focus rfl)) | (apply zv; (focus rfl)) | apply zx | apply zy | apply zB | apply zC | apply zD | apply zE | apply zF); (focus ((conv => lhs; simp (disch := omega) [-env0_get, bound, List.getElem?_cons_zero, List.getElem?_cons_succ, odt, odf, oip, oin, obt, obf, ont, onf, wrapI, owu, ow8, ow32, otd, oe0, oe1, oe2, oe3, oe4, oe5, oe6, otn, ot1, ot2, ot4, e0, e1, e5, hasL]); first | done | rfl)); first | apply zk | (apply zn; (focus rfl); try (focus (first | rfl | (simp [e0, e1, e5, hasL]; done)))) | (apply zo; (focus rfl)) | apply gv_u | apply gv_tt | apply gv_ff | apply gv_ft | apply gv_tf | (apply gv_split <;> intro hc <;> try simp only [decide_eq_true_eq, decide_eq_false_iff_not, beq_iff_eq, beq_eq_false_iff_ne, bne_iff_ne, bne_eq_false_iff_eq, Bool.not_true, Bool.not_false, ne_eq] at hc))
 | (simp (disch := omega) only [thenQ_normal, thenQ_exit, thenQ_ret, blockQ_normal, blockQ_ret, blockQ_exit_same, blockQ_exit_ne]))
end Go.Proofs.Ytlgbeekhaoiggaa
end

section
namespace Go.Proofs.Ytlgbeekhaoiggaa
open Go.AM
def aboveC (last : Option (Int × Int)) (x : Int × Int) : Bool := match last with | none => true | some p => lessC p x
def lessO (acc : Option (Int × Int)) (x : Int × Int) : Bool := match acc with | none => true | some n => lessC x n
def stepS (last acc : Option (Int × Int)) (x : Int × Int) : Option (Int × Int) :=
  if aboveC last x = true ∧ lessO acc x = true then some (canon x) else acc
def leastS (last : Option (Int × Int)) (l : List (Int × Int)) : Option (Int × Int) := l.foldl (stepS last) none
theorem canon_canon (c : Int × Int) : canon (canon c) = canon c := by
  rcases canon_cases c with q | q | ⟨q, _⟩
  · rw [q]; rfl
  · rw [q]; rfl
  · rw [q, q]
theorem keyC_canon (c : Int × Int) : keyC (canon c) = keyC c := by unfold keyC; rw [canon_canon]
theorem okN_canon {c : Int × Int} (h : okN c.2) : okN (canon c).2 := by
  rcases canon_cases c with q | q | ⟨q, _⟩ <;> rw [q]
  · unfold okN; simp
  · unfold okN; simp
  · exact h
theorem leastS_fold {last : Option (Int × Int)} (hlast : ∀ p, last = some p → okN p.2) : ∀ (l : List (Int × Int)) (acc : Option (Int × Int)), (∀ x ∈ l, okN x.2) → (∀ a, acc = some a → okN a.2 ∧ canon a = a) →
    match l.foldl (stepS last) acc with
    | none => acc = none ∧ ∀ x ∈ l, aboveC last x = false
    | some n => (acc = some n ∨ ∃ x ∈ l, aboveC last x = true ∧ canon x = n) ∧ (∀ a, acc = some a → keyC n ≤ keyC a) ∧ (∀ x ∈ l, aboveC last x = true → keyC n ≤ keyC x) ∧ okN n.2 ∧ canon n = n
  | [], acc, _, ha => by
    cases acc with
    | none => simp
    | some a => obtain ⟨h1, h2⟩ := ha a rfl; simp [h1, h2]
  | x :: l, acc, hx, ha => by
    have hxo := hx x (by simp)
    have hst : ∀ a, stepS last acc x = some a → okN a.2 ∧ canon a = a := by
      intro a h
      unfold stepS at h
      split at h
      · cases h; exact ⟨okN_canon hxo, canon_canon x⟩
      · exact ha a h
    have ih := leastS_fold hlast l (stepS last acc x) (fun y hy => hx y (by simp [hy])) hst
    rw [List.foldl_cons]
    cases hf : l.foldl (stepS last) (stepS last acc x) with
    | none =>
      rw [hf] at ih
      simp only at ih ⊢
      obtain ⟨i1, i2⟩ := ih
      unfold stepS at i1
      split at i1
      · cases i1
      · rename_i hn
        subst i1
        refine ⟨rfl, fun y hy => ?_⟩
        rcases List.mem_cons.1 hy with rfl | q
        · cases hb : aboveC last y
          · rfl
          · exact absurd ⟨hb, rfl⟩ hn
        · exact i2 y q
    | some n =>
      rw [hf] at ih
      simp only at ih ⊢
      obtain ⟨i1, i2, i3, i4, i5⟩ := ih
      refine ⟨?_, ?_, ?_, i4, i5⟩
      · rcases i1 with q | ⟨y, hy, q1, q2⟩
        · unfold stepS at q
          split at q
          · rename_i hc; cases q; exact .inr ⟨x, by simp, hc.1, rfl⟩
          · exact .inl q
        · exact .inr ⟨y, by simp [hy], q1, q2⟩
      · intro a hacc
        subst hacc
        by_cases hc : aboveC last x = true ∧ lessO (some a) x = true
        · have e : stepS last (some a) x = some (canon x) := if_pos hc
          have := i2 _ e
          have hl : lessC x a = true := hc.2
          rw [lessC_key hxo (ha a rfl).1, decide_eq_true_eq] at hl
          rw [keyC_canon] at this; omega
        · have e : stepS last (some a) x = some a := if_neg hc
          exact i2 _ e
      · intro y hy hab
        rcases List.mem_cons.1 hy with rfl | q
        · by_cases hc : lessO acc y = true
          · have e : stepS last acc y = some (canon y) := if_pos ⟨hab, hc⟩
            have := i2 _ e
            rw [keyC_canon] at this; exact this
          · cases acc with
            | none => exact absurd rfl hc
            | some a =>
              have e : stepS last (some a) y = some a := if_neg (fun q => hc q.2)
              have h1 := i2 _ e
              have hc : lessC y a = false := (Bool.not_eq_true _).mp hc
              rw [lessC_key hxo (ha a rfl).1, decide_eq_false_iff_not] at hc
              omega
        · exact i3 y q hab
theorem leastS_none {last : Option (Int × Int)} {l : List (Int × Int)} (hlast : ∀ p, last = some p → okN p.2) (hl : ∀ x ∈ l, okN x.2) (h : leastS last l = none) : ∀ x ∈ l, aboveC last x = false := by
  have := leastS_fold hlast l none hl (by simp)
  unfold leastS at h
  rw [h] at this
  exact this.2
theorem leastS_some {last : Option (Int × Int)} {l : List (Int × Int)} {n : Int × Int} (hlast : ∀ p, last = some p → okN p.2) (hl : ∀ x ∈ l, okN x.2) (h : leastS last l = some n) :
    (∃ x ∈ l, aboveC last x = true ∧ canon x = n) ∧ (∀ x ∈ l, aboveC last x = true → keyC n ≤ keyC x) ∧ okN n.2 ∧ canon n = n := by
  have := leastS_fold hlast l none hl (by simp)
  unfold leastS at h
  rw [h] at this
  obtain ⟨h1, _, h3, h4, h5⟩ := this
  exact ⟨h1.resolve_left (by simp), h3, h4, h5⟩
structure Taken (l out : List (Int × Int)) : Prop where
  up : Rise out
  src : ∀ c ∈ out, ∃ x ∈ l, canon x = c
  all : ∀ x ∈ l, canon x ∈ out ∨ aboveC out.getLast? x = true
theorem Taken.start (l : List (Int × Int)) : Taken l [] := ⟨⟨by simp, .nil⟩, by simp, fun x _ => .inr rfl⟩
theorem Taken.last {l out : List (Int × Int)} (t : Taken l out) : ∀ p, out.getLast? = some p → okN p.2 := fun p hp => (t.up.ok p (List.mem_of_getLast? hp)).1
theorem Taken.step {l out : List (Int × Int)} {n : Int × Int} (t : Taken l out) (hl : ∀ x ∈ l, okN x.2) (h : leastS out.getLast? l = some n) : Taken l (out ++ [n]) := by
  obtain ⟨⟨x, hx, hab, hxn⟩, hmin, hno, hnc⟩ := leastS_some t.last hl h
  have hup : ∀ c ∈ out, keyC c < keyC n := by
    intro c hc
    cases hg : out.getLast? with
    | none => rw [List.getLast?_eq_none_iff.1 hg] at hc; simp at hc
    | some p =>
      have hp : keyC p < keyC n := by
        rw [hg] at hab
        have : lessC p x = true := hab
        rw [lessC_key (t.last p hg) (hl x hx), decide_eq_true_eq] at this
        rw [← hxn, keyC_canon]; exact this
      obtain ⟨ys, rfl⟩ := List.getLast?_eq_some_iff.1 hg
      rcases List.mem_append.1 hc with q | q
      · have := (List.pairwise_append.1 t.up.up).2.2 c q p (by simp); omega
      · simp at q; subst q; exact hp
  refine ⟨⟨?_, ?_⟩, ?_, ?_⟩
  · intro c hc
    rcases List.mem_append.1 hc with q | q
    · exact t.up.ok c q
    · simp at q; subst q; exact ⟨hno, hnc⟩
  · rw [List.pairwise_append]
    exact ⟨t.up.up, by simp, fun a ha b hb => by simp at hb; subst hb; exact hup a ha⟩
  · intro c hc
    rcases List.mem_append.1 hc with q | q
    · exact t.src c q
    · simp at q; subst q; exact ⟨x, hx, hxn⟩
  · intro y hy
    rcases t.all y hy with q | q
    · exact .inl (by simp [q])
    · have hle := hmin y hy q
      by_cases he : keyC n = keyC y
      · left
        have : canon y = n := key_inj (okN_canon (hl y hy)) hno (canon_canon y) hnc (by rw [keyC_canon]; exact he.symm)
        rw [this]; simp
      · right
        rw [List.getLast?_concat]
        show lessC n y = true
        rw [lessC_key hno (hl y hy), decide_eq_true_eq]; omega
theorem Taken.done {l out : List (Int × Int)} (t : Taken l out) (hl : ∀ x ∈ l, okN x.2) (h : leastS out.getLast? l = none) : ∀ c, c ∈ out ↔ ∃ x ∈ l, canon x = c := by
  intro c
  constructor
  · exact t.src c
  · rintro ⟨x, hx, rfl⟩
    rcases t.all x hx with q | q
    · exact q
    · have := leastS_none t.last hl h x hx
      rw [this] at q; cases q
end Go.Proofs.Ytlgbeekhaoiggaa
end

section
namespace Go.Proofs.Ytlgbeekhaoiggaa
open Go.AM
set_option maxHeartbeats 4000000
variable {f : Nat} {h : Heap}
theorem countP_lt' {α : Type} {p q : α → Bool} : ∀ {l : List α}, (∀ x ∈ l, p x = true → q x = true) → (∃ x ∈ l, q x = true ∧ p x = false) → l.countP p < l.countP q
  | [], _, h => by obtain ⟨x, hx, _⟩ := h; simp at hx
  | a :: l, h1, h2 => by
    have hle : l.countP p ≤ l.countP q := List.countP_mono_left fun x hx => h1 x (by simp [hx])
    obtain ⟨x, hx, hq, hp⟩ := h2
    rw [List.countP_cons, List.countP_cons]
    rcases List.mem_cons.1 hx with rfl | hx
    · rw [hq, hp]; simp; omega
    · have := countP_lt' (l := l) (fun y hy => h1 y (by simp [hy])) ⟨x, hx, hq, hp⟩
      have ha := h1 a (by simp)
      cases hpa : p a <;> cases hqa : q a
      · simp; omega
      · simp; omega
      · rw [hpa, hqa] at ha; simp at ha
      · simp; omega
theorem Taken.count {l out : List (Int × Int)} {n : Int × Int} (t : Taken l out) (hl : ∀ x ∈ l, okN x.2) (h : leastS out.getLast? l = some n) : l.countP (aboveC (some n)) < l.countP (aboveC out.getLast?) := by
  obtain ⟨⟨x, hx, hab, hxn⟩, hmin, hno, hnc⟩ := leastS_some t.last hl h
  have hk : keyC n = keyC x := by rw [← hxn, keyC_canon]
  refine countP_lt' (fun y hy hp => ?_) ⟨x, hx, hab, ?_⟩
  · have h1 : lessC n y = true := hp
    rw [lessC_key hno (hl y hy), decide_eq_true_eq] at h1
    cases hg : out.getLast? with
    | none => rfl
    | some p =>
      rw [hg] at hab
      have h2 : lessC p x = true := hab
      rw [lessC_key (t.last p hg) (hl x hx), decide_eq_true_eq] at h2
      show lessC p y = true
      rw [lessC_key (t.last p hg) (hl y hy), decide_eq_true_eq]; omega
  · show lessC n x = false
    rw [lessC_key hno (hl x hx), decide_eq_false_iff_not]; omega
def cuC (c : Int × Int) : List Value := [.int .i64 c.1, .int .i64 c.2]
theorem cuC_len (c : Int × Int) : (cuC c).length = 2 := rfl
theorem cuC_ints (c : Int × Int) (v : Value) (hv : v ∈ cuC c) : ∃ k m, v = .int k m := by
  simp [cuC] at hv; rcases hv with rfl | rfl <;> exact ⟨_, _, rfl⟩
abbrev CRow (h : Heap) (v : Value) (cs : List (Int × Int)) : Prop := Row h 44 2 v cs.length (elems cuC cs)
theorem cellsB {h : Heap} {n : Nat} {c : List Value} {e : TypeId} (hh : h[n]? = some (.cells c e)) : h.cellsAt n = some c := by unfold Heap.cellsAt; rw [hh]
theorem ltB {h : Heap} {n : Nat} {x : AObj} (hh : h[n]? = some x) : n < h.size := (Array.getElem?_eq_some_iff.1 hh).1
end Go.Proofs.Ytlgbeekhaoiggaa
end
