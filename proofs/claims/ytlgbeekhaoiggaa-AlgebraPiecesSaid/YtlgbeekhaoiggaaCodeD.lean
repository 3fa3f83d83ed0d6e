import Derived.Test.YtlgbeekhaoiggaaCodeC
set_option linter.all false
section
namespace Go.Proofs.Ytlgbeekhaoiggaa
open Go.AM
set_option maxHeartbeats 4000000
variable {f : Nat} {h : Heap}
def pieceAt (p : Int → Bool) (c d : Int × Int) : List Sp := if p (keyC c) = true then [⟨c.1, c.2, d.1, d.2⟩] else []
theorem pieces_snoc (p : Int → Bool) (d : Int × Int) : ∀ (cs : List (Int × Int)) (c : Int × Int), pieces p (cs ++ [c, d]) = pieces p (cs ++ [c]) ++ pieceAt p c d
  | [], c => by simp [pieces, pieceAt]
  | [b], c => by simp [pieces, pieceAt]
  | a :: b :: cs, c => by
    have ih := pieces_snoc p d (b :: cs) c
    simp only [List.cons_append] at ih ⊢
    rw [pieces, ih, pieces, List.append_assoc]
theorem pieces_take (p : Int → Bool) {cs : List (Int × Int)} {i : Nat} (h : i + 1 < cs.length) : pieces p (cs.take (i + 2)) = pieces p (cs.take (i + 1)) ++ pieceAt p (nth cs i) (nth cs (i + 1)) := by
  rw [show i + 2 = (i + 1) + 1 from rfl, nth_take h, nth_take (show i < cs.length by omega), List.append_assoc]
  exact pieces_snoc p _ _ _
theorem joinP_snoc (ps : List Sp) (s : Sp) : joinP (ps ++ [s]) = putJ (joinP ps) s := by unfold joinP; rw [List.foldl_append]; rfl
theorem pieces_len (p : Int → Bool) : ∀ (cs : List (Int × Int)), (pieces p cs).length ≤ cs.length
  | [] => by simp [pieces]
  | [_] => by simp [pieces]
  | c :: d :: r => by
    have := pieces_len p (d :: r)
    simp only [pieces, List.length_append, List.length_cons] at *
    split <;> simp <;> omega
theorem putJ_len (out : List Sp) (s : Sp) : (putJ out s).length ≤ out.length + 1 := by
  unfold putJ; split
  · split <;> simp <;> omega
  · simp
theorem joinP_len (ps : List Sp) : (joinP ps).length ≤ ps.length := by
  have : ∀ (ps out : List Sp), (ps.foldl putJ out).length ≤ out.length + ps.length := by
    intro ps
    induction ps with
    | nil => intro out; simp
    | cons s ps ih => intro out; have := ih (putJ out s); have := putJ_len out s; simp; omega
  have := this ps []; unfold joinP; simp at this; exact this
theorem putJ_set {out : List Sp} {s : Sp} (h : out.length ≠ 0) : putJ out s = if (nth out (out.length - 1)).c = s.a ∧ (nth out (out.length - 1)).d = s.b then out.set (out.length - 1) ⟨(nth out (out.length - 1)).a, (nth out (out.length - 1)).b, s.c, s.d⟩ else out ++ [s] := by
  unfold putJ
  rw [last_ne h]
  simp only
  split
  · rw [List.set_eq_take_append_cons_drop, if_pos (by omega), List.dropLast_eq_take, List.drop_eq_nil_of_le (by omega)]
  · rfl
theorem rise_nth {cs : List (Int × Int)} (h : Rise cs) {i : Nat} (hi : i + 1 < cs.length) : okN (nth cs i).2 ∧ okN (keyC (nth cs i)) ∧ (nextN ((nth cs i).1, (nth cs i).2)).1 = keyC (nth cs i) := by
  have ho := h.ok _ (nth_mem (show i < cs.length by omega))
  have ho2 := h.ok _ (nth_mem hi)
  have hlt : keyC (nth cs i) < keyC (nth cs (i + 1)) := by
    have := List.pairwise_iff_getElem.1 h.up i (i + 1) (by omega) hi (by omega)
    rw [nth_of (List.getElem?_eq_getElem (show i < cs.length by omega)), nth_of (List.getElem?_eq_getElem hi)]; exact this
  have hr := keyC_rng ho2.1
  have := nextN_key (c := nth cs i) (by omega) ho.1
  exact ⟨ho.1, this.2, this.1⟩
def listW (xs : List Sp) : List Sp := joinP (pieces (hasL xs) (riseL (cutsOf xs)))
theorem list3_runs {v : Value} {xs : List Sp} (hr : SRow h v xs) (hl : xs.length ≤ 1000) (hx : ∀ x ∈ xs, okP x) : Runs Xq ⟨f, []⟩ 42 [v] h (rowV h.size (listW xs).length) (pushR h 46 (elems spC (listW xs))) := by
  refine runs_R rfl f42_is ?_
  obtain ⟨hcs, hcm, hcn⟩ := riseL_ok (cutsOf_ok hx)
  have hcl := cutsOf_len xs
  simp [RF_of (cuts3_runs hr hl hx)]
  have hc := row_pushR (h := h) (e := 44) (xs := riseL (cutsOf xs)) cuC_len (by omega)
  have hq0 := low_pushR (Nat.le_refl h.size) 44 (elems cuC (riseL (cutsOf xs)))
  unfold listW
  generalize riseL (cutsOf xs) = cs at *
  generalize rowV h.size cs.length = vc at *
  generalize pushR h 44 (elems cuC cs) = hq at *
  have hR := hc.R cuC_len
  have hlt := hc.lt
  have sq := hq0.1
  have i0 : Own hq.size hq 46 4 (.slice none 0 0) (elems spC (joinP (pieces (hasL xs) (cs.take 1)))) := by cases cs <;> simp [pieces, joinP] <;> exact .nil
  obtain ⟨J, hJ⟩ : ∃ J : Nat × Value → Env → Heap → Prop, J = fun x e h' => e 4 = x.2 ∧ e 5 = .int .i64 (x.1 : Nat) ∧ x.1 + 1 ≤ cs.length + 1 ∧ Own hq.size h' 46 4 x.2 (elems spC (joinP (pieces (hasL xs) (cs.take (x.1 + 1))))) ∧ Low hq.size hq h' := ⟨_, rfl⟩
  refine Run_while xlow [11, 12, 13, 14, 15, 19, 20, 21, 22, 23, 18, 24, 25, 6, 7, 26, 27, 28, 29, 30, 31, 32, 8, 33, 34, 35, 36, 37, 38, 39, 40, 41, 42, 43, 44, 45, 46, 47, 48, 49, 50, 51, 52, 53, 54, 55, 56, 57, 58, 59, 60, 61, 62, 63, 64, 65, 66, 67, 68, 69, 70, 71, 72, 73, 4, 16, 17, 5] sq J (fun x => cs.length - x.1) (0, .slice none 0 0) rfl (hJ ▸ ⟨by simp, by simp, by simp, i0, .refl _ _⟩) ?_
  rintro ⟨i, w⟩ e h' j0 ke _
  rw [hJ] at j0
  obtain ⟨e4, e5, hi, ho, hl'⟩ := j0
  simp only at e4 e5 hi ho
  have e0 : e 0 = v := by rw [ke 0 (by decide)]; simp
  have e3 : e 3 = vc := by rw [ke 3 (by decide)]; simp
  clear ke
  have s1 := hl'.1
  by_cases hlt2 : i + 1 < cs.length
  · obtain ⟨r1, r2, r3⟩ := rise_nth hcs hlt2
    have hr' : SRow h' v xs := (hr.low hq0 (Nat.le_refl _)).low hl' (Nat.le_refl _)
    have hw := (ho.row spC_len (by omega)).R spC_len
    have hwt := (ho.row spC_len (by omega)).lt
    have hpl := pieces_len (hasL xs) (cs.take (i + 1))
    have hjl := joinP_len (pieces (hasL xs) (cs.take (i + 1)))
    rw [List.length_take] at hpl
    have hpt := pieces_take (hasL xs) hlt2
    have hi1 : ((i : Int) + 1) = ((i + 1 : Nat) : Int) := by omega
    generalize hout : joinP (pieces (hasL xs) (cs.take (i + 1))) = out at *
    by_cases hh : hasL xs (keyC (nth cs i)) = true
    · rw [show pieceAt (hasL xs) (nth cs i) (nth cs (i + 1)) = [⟨(nth cs i).1, (nth cs i).2, (nth cs (i + 1)).1, (nth cs (i + 1)).2⟩] from if_pos hh] at hpt
      have hst := congrArg joinP hpt
      rw [joinP_snoc, hout] at hst
      by_cases ho0 : out.length = 0
      · simp +contextual (disch := first | omega | decide | with_unfolding_all rfl) [e0, e3, e4, e5, hR, hw, hl'.c, hlt2, RF_of (up next_runs), cuC, r3, RF_of (up (anyN_runs hr' (by omega) hx r2)), hh, ho0]
        refine RM_app1 (n := out.length) ho sq s1 (by rw [elems_len spC_len]) rfl (by omega) rfl (by omega) (by omega) fun w2 h2 o2 l2 => ?_
        simp (disch := first | omega | decide | with_unfolding_all rfl) [e5]
        refine .mk (i + 1, w2) (hJ ▸ ⟨by simp, by simp, by simp only; omega, ?_, hl'.trans l2⟩) (by simp only; omega)
        simp only; rw [hst, List.eq_nil_of_length_eq_zero ho0] at *; simpa [putJ, spC] using o2
      · rw [putJ_set ho0] at hst
        by_cases hm : (nth out (out.length - 1)).c = (nth cs i).1 ∧ (nth out (out.length - 1)).d = (nth cs i).2
        · rw [if_pos hm] at hst
          simp +contextual (disch := first | omega | decide | with_unfolding_all rfl) [e0, e3, e4, e5, hR, hw, hl'.c, hlt2, RF_of (up next_runs), cuC, r3, RF_of (up (anyN_runs hr' (by omega) hx r2)), hh, ho0, spC, hm]
          refine RM_set (i := out.length - 1) (y := ⟨(nth out (out.length - 1)).a, (nth out (out.length - 1)).b, (nth cs (i + 1)).1, (nth cs (i + 1)).2⟩) ho spC_len (by omega) (by omega) sq rfl rfl fun h2 o2 l2 => ?_
          simp (disch := first | omega | decide | with_unfolding_all rfl) [e5]
          exact .mk (i + 1, w) (hJ ▸ ⟨by simp [e4], by simp, by simp only; omega, by simp only; rw [hst]; exact o2, hl'.trans l2⟩) (by simp only; omega)
        · rw [if_neg hm] at hst
          simp +contextual (disch := first | omega | decide | with_unfolding_all rfl) [e0, e3, e4, e5, hR, hw, hl'.c, hlt2, RF_of (up next_runs), cuC, r3, RF_of (up (anyN_runs hr' (by omega) hx r2)), hh, ho0, spC, hm]
          refine RM_app1 (n := out.length) ho sq s1 (by rw [elems_len spC_len]) rfl (by omega) rfl (by omega) (by omega) fun w2 h2 o2 l2 => ?_
          simp (disch := first | omega | decide | with_unfolding_all rfl) [e5]
          refine .mk (i + 1, w2) (hJ ▸ ⟨by simp, by simp, by simp only; omega, ?_, hl'.trans l2⟩) (by simp only; omega)
          simp only; rw [hst]; simpa [spC] using o2
    · have hh' : hasL xs (keyC (nth cs i)) = false := by simpa using hh
      rw [show pieceAt (hasL xs) (nth cs i) (nth cs (i + 1)) = [] from if_neg hh, List.append_nil] at hpt
      simp +contextual (disch := first | omega | decide | with_unfolding_all rfl) [e0, e3, e4, e5, hR, hw, hl'.c, hlt2, RF_of (up next_runs), cuC, r3, RF_of (up (anyN_runs hr' (by omega) hx r2)), hh']
      exact .mk (i + 1, w) (hJ ▸ ⟨by simp [e4], by simp, by simp only; omega, by simp only; rw [hpt, hout]; exact ho, hl'⟩) (by simp only; omega)
  · rw [List.take_of_length_le (by omega)] at ho
    simp +contextual (disch := first | omega | decide | with_unfolding_all rfl) [e0, e3, e4, e5, hR, hlt2]
    refine RQ_own (ho.weak sq) spC_len (by omega) (all_below_ints (elems_ints spC_ints _)) ⟨rfl, rfl⟩
end Go.Proofs.Ytlgbeekhaoiggaa
end

section
namespace Go.Proofs.Ytlgbeekhaoiggaa
open Go.AM
set_option maxHeartbeats 4000000
variable {f : Nat} {h : Heap}
def minusP (xs ys : List Sp) (n : Int) : Bool := hasL xs n && !hasL ys n
def minusW (xs ys : List Sp) : List Sp := listW (pieces (minusP xs ys) (riseL (cutsOf (xs ++ ys))))
theorem sp_one (xs : List Sp) : (elems spC xs).all Go.AM.one = true := all_one_ints (elems_ints spC_ints xs)
theorem minus3_runs {v u : Value} {xs ys : List Sp} (hr : SRow h v xs) (hu : SRow h u ys) (hl : xs.length + ys.length ≤ 400) (hx : ∀ x ∈ xs, okP x) (hy : ∀ x ∈ ys, okP x) : Runs Xq ⟨f, []⟩ 68 [v, u] h (rowV h.size (minusW xs ys).length) (pushR h 46 (elems spC (minusW xs ys))) := by
  refine runs_R rfl f68_is ?_
  simp
  have l0 := Low.push (Nat.le_refl h.size) (.cells [] 46)
  refine RM_bapp (n := 0) (m := xs.length) .new rfl (by omega) (Nat.le_refl _) (by simp) (hr.low l0 (Nat.le_refl _)).src (by rw [elems_len spC_len]) (sp_one xs) (by simp) (by omega) (by omega) fun w1 h1 b1 l1 => ?_
  replace l1 := l0.trans l1
  simp
  refine RM_bapp (n := xs.length) (m := ys.length) b1 (by simpa using sp_one xs) (by omega) (Nat.le_refl _) l1.1 (hu.low l1 (Nat.le_refl _)).src (by rw [elems_len spC_len]) (sp_one ys) (by simp [elems_len spC_len]) (by omega) (by omega) fun w2 h2 b2 l2 => ?_
  replace l2 := l1.trans l2
  rw [List.nil_append, ← elems_append] at b2
  have hxy : ∀ x ∈ xs ++ ys, okP x := fun x q => (List.mem_append.1 q).elim (hx x) (hy x)
  have hro := b2.rowE spC_len (by omega)
  have hcl := cutsOf_len (xs ++ ys)
  obtain ⟨hcs, hcm, hcn⟩ := riseL_ok (cutsOf_ok hxy)
  rw [List.length_append] at hcl
  simp [RF_of (cuts3_runs hro (by simp; omega) hxy)]
  have hc := row_pushR (h := h2) (e := 44) (xs := riseL (cutsOf (xs ++ ys))) cuC_len (by omega)
  have hq0 := l2.up (low_pushR (Nat.le_refl h2.size) 44 (elems cuC (riseL (cutsOf (xs ++ ys))))) l2.1
  unfold minusW
  generalize riseL (cutsOf (xs ++ ys)) = cs at *
  generalize rowV h2.size cs.length = vc at *
  generalize pushR h2 44 (elems cuC cs) = hq at *
  have hR := hc.R cuC_len
  have hlt := hc.lt
  have sq := hq0.1
  have i0 : Own hq.size hq 46 4 (.slice none 0 0) (elems spC (pieces (minusP xs ys) (cs.take 1))) := by cases cs <;> simp [pieces] <;> exact .nil
  obtain ⟨J, hJ⟩ : ∃ J : Nat × Value → Env → Heap → Prop, J = fun x e h' => e 7 = x.2 ∧ e 8 = .int .i64 (x.1 : Nat) ∧ x.1 + 1 ≤ cs.length + 1 ∧ Own hq.size h' 46 4 x.2 (elems spC (pieces (minusP xs ys) (cs.take (x.1 + 1)))) ∧ Low hq.size hq h' := ⟨_, rfl⟩
  refine Run_while xlow [18, 19, 20, 21, 22, 26, 27, 28, 29, 30, 25, 31, 32, 9, 10, 33, 34, 35, 36, 37, 38, 39, 40, 41, 42, 43, 44, 45, 46, 47, 48, 49, 50, 51, 52, 53, 54, 7, 23, 24, 8] sq J (fun x => cs.length - x.1) (0, .slice none 0 0) rfl (hJ ▸ ⟨by simp, by simp, by simp, i0, .refl _ _⟩) ?_
  rintro ⟨i, w⟩ e h' j0 ke _
  rw [hJ] at j0
  obtain ⟨e7, e8, hi, ho, hl'⟩ := j0
  simp only at e7 e8 hi ho
  have e0 : e 0 = v := by rw [ke 0 (by decide)]; simp
  have e1 : e 1 = u := by rw [ke 1 (by decide)]; simp
  have e6 : e 6 = vc := by rw [ke 6 (by decide)]; simp
  clear ke
  have s1 := hl'.1
  by_cases hlt2 : i + 1 < cs.length
  · obtain ⟨r1, r2, r3⟩ := rise_nth hcs hlt2
    have hr' : SRow h' v xs := (hr.low hq0 (Nat.le_refl _)).low hl' (Nat.le_refl _)
    have hu' : SRow h' u ys := (hu.low hq0 (Nat.le_refl _)).low hl' (Nat.le_refl _)
    have hpl := pieces_len (minusP xs ys) (cs.take (i + 1))
    rw [List.length_take] at hpl
    have hpt := pieces_take (minusP xs ys) hlt2
    have hi1 : ((i : Int) + 1) = ((i + 1 : Nat) : Int) := by omega
    have st : ∀ b c, hasL xs (keyC (nth cs i)) = b → hasL ys (keyC (nth cs i)) = c → pieceAt (minusP xs ys) (nth cs i) (nth cs (i + 1)) = if (b && !c) = true then [⟨(nth cs i).1, (nth cs i).2, (nth cs (i + 1)).1, (nth cs (i + 1)).2⟩] else [] := fun b c hb hc => by
      unfold pieceAt minusP; rw [hb, hc]
    cases hh : hasL xs (keyC (nth cs i)) with
    | false =>
      rw [st _ _ hh rfl, if_neg (by simp), List.append_nil] at hpt
      simp +contextual (disch := first | omega | decide | with_unfolding_all rfl) [e0, e1, e6, e7, e8, hR, hl'.c, hlt2, RF_of (up next_runs), cuC, r3, RF_of (up (anyN_runs hr' (by omega) hx r2)), RF_of (up (anyN_runs hu' (by omega) hy r2)), hh]
      exact .mk (i + 1, w) (hJ ▸ ⟨by simp [e7], by simp, by simp only; omega, by simp only; rw [hpt]; exact ho, hl'⟩) (by simp only; omega)
    | true =>
      cases hh2 : hasL ys (keyC (nth cs i)) with
      | true =>
        rw [st _ _ hh hh2, if_neg (by simp), List.append_nil] at hpt
        simp +contextual (disch := first | omega | decide | with_unfolding_all rfl) [e0, e1, e6, e7, e8, hR, hl'.c, hlt2, RF_of (up next_runs), cuC, r3, RF_of (up (anyN_runs hr' (by omega) hx r2)), RF_of (up (anyN_runs hu' (by omega) hy r2)), hh, hh2]
        exact .mk (i + 1, w) (hJ ▸ ⟨by simp [e7], by simp, by simp only; omega, by simp only; rw [hpt]; exact ho, hl'⟩) (by simp only; omega)
      | false =>
        rw [st _ _ hh hh2, if_pos (by simp)] at hpt
        simp +contextual (disch := first | omega | decide | with_unfolding_all rfl) [e0, e1, e6, e7, e8, hR, hl'.c, hlt2, RF_of (up next_runs), cuC, r3, RF_of (up (anyN_runs hr' (by omega) hx r2)), RF_of (up (anyN_runs hu' (by omega) hy r2)), hh, hh2]
        refine RM_app1 (n := (pieces (minusP xs ys) (cs.take (i + 1))).length) ho sq s1 (by rw [elems_len spC_len]) rfl (by omega) rfl (by omega) (by omega) fun w2 h2 o2 l2 => ?_
        simp (disch := first | omega | decide | with_unfolding_all rfl) [e8]
        refine .mk (i + 1, w2) (hJ ▸ ⟨by simp, by simp, by simp only; omega, ?_, hl'.trans l2⟩) (by simp only; omega)
        simp only; rw [hpt]; simpa [spC] using o2
  · rw [List.take_of_length_le (by omega)] at ho
    have hpl := pieces_len (minusP xs ys) cs
    simp +contextual (disch := first | omega | decide | with_unfolding_all rfl) [e0, e1, e6, e7, e8, hR, hlt2]
    rw [RF_of (list3_runs (ho.row spC_len (by omega)) (by omega) (fun x q => ((pieces_ok _ hcs).1 x q).1))]
    simp (disch := first | omega | decide | with_unfolding_all rfl) [RQ_rowV spC_len spC_ints]
theorem meet3_runs {v u : Value} {xs ys : List Sp} (hr : SRow h v xs) (hu : SRow h u ys) (hl : xs.length + ys.length ≤ 400) (hm : xs.length + (minusW xs ys).length ≤ 400) (hx : ∀ x ∈ xs, okP x) (hy : ∀ x ∈ ys, okP x) (hmo : ∀ x ∈ minusW xs ys, okP x) : Runs Xq ⟨f, []⟩ 66 [v, u] h (rowV h.size (minusW xs (minusW xs ys)).length) (pushR h 46 (elems spC (minusW xs (minusW xs ys)))) := by
  refine runs_R rfl f66_is ?_
  have hq := row_pushR (h := h) (e := 46) (xs := minusW xs ys) spC_len (by omega)
  have hl := low_pushR (Nat.le_refl h.size) 46 (elems spC (minusW xs ys))
  have s1 := hl.1
  simp [RF_of (minus3_runs hr hu (by omega) hx hy)]
  rw [RF_of (minus3_runs (hr.low hl (Nat.le_refl _)) hq (by omega) hx hmo)]
  have s2 : h.size ≤ (pushR h 46 (elems spC (minusW xs ys))).size := s1
  simp only [size_pushR] at s2
  generalize pushR h 46 (elems spC (minusW xs ys)) = hh at *
  simp (disch := first | omega | decide | with_unfolding_all rfl) [RQ_rowV spC_len spC_ints]
end Go.Proofs.Ytlgbeekhaoiggaa
end

section
namespace Go.Proofs.Ytlgbeekhaoiggaa
open Go.AM
set_option maxHeartbeats 4000000
variable {f : Nat} {h : Heap}
theorem holdsC_sub {xs ys : List Sp} (hy : ∀ x ∈ ys, okP x) (hs : ∀ x ∈ xs, x ∈ ys) : holdsC xs (riseL (cutsOf ys)) := by
  intro s hs' hr
  have hsy := hs s hs'
  obtain ⟨c1, c2, _⟩ := (right_iff (hy s hsy)).1 hr
  have hm := (riseL_ok (cutsOf_ok hy)).2.1
  have hc : ∀ c, c ∈ cutS s → c ∈ cutsOf ys := fun c hc => List.mem_flatMap.2 ⟨s, hsy, hc⟩
  have hcs : cutS s = [(s.a, s.b), (s.c, s.d)] := if_pos hr
  exact ⟨(hm _).2 ⟨_, hc _ (by rw [hcs]; simp), c1⟩, (hm _).2 ⟨_, hc _ (by rw [hcs]; simp), c2⟩⟩
theorem listW_ok {xs : List Sp} (hx : ∀ x ∈ xs, okP x) : (∀ x ∈ listW xs, okP x) ∧ CanL (listW xs) ∧ ∀ n, inL (listW xs) n ↔ inL xs n :=
  one_pieces (riseL_ok (cutsOf_ok hx)).1 (holdsC_sub hx fun _ h => h)
theorem listW_len (xs : List Sp) (hx : ∀ x ∈ xs, okP x) : (listW xs).length ≤ 2 * xs.length := by
  have h1 := joinP_len (pieces (hasL xs) (riseL (cutsOf xs)))
  have h2 := pieces_len (hasL xs) (riseL (cutsOf xs))
  have h3 := (riseL_ok (cutsOf_ok hx)).2.2
  have h4 := cutsOf_len xs
  unfold listW; omega
theorem ok_app {xs ys : List Sp} (hx : ∀ x ∈ xs, okP x) (hy : ∀ x ∈ ys, okP x) : ∀ x ∈ xs ++ ys, okP x := fun x q => (List.mem_append.1 q).elim (hx x) (hy x)
theorem pieces2 {p : Bool → Bool → Bool} {xs ys : List Sp} (hx : ∀ x ∈ xs, okP x) (hy : ∀ x ∈ ys, okP x) (hp : p false false = false) :
    (∀ s ∈ pieces (fun n => p (hasL xs n) (hasL ys n)) (riseL (cutsOf (xs ++ ys))), okP s) ∧
    ∀ n, inL (pieces (fun n => p (hasL xs n) (hasL ys n)) (riseL (cutsOf (xs ++ ys)))) n ↔ p (hasL xs n) (hasL ys n) = true := by
  have hxy := ok_app hx hy
  have hr := (riseL_ok (cutsOf_ok hxy)).1
  have c1 := holdsC_sub hxy (xs := xs) fun x h => List.mem_append_left _ h
  have c2 := holdsC_sub hxy (xs := ys) fun x h => List.mem_append_right _ h
  refine ⟨fun s hs => ((pieces_ok _ hr).1 s hs).1, fun n => ?_⟩
  have h1 := (two_pieces (p := p) hr c1 c2 hp).2.2 n
  have h2 := (joinP_pieces (p := fun n => p (hasL xs n) (hasL ys n)) hr (flat_of (xs := xs) (ys := ys) (fun n m e1 e2 => by rw [e1, e2]) (gaps_of hr c1.among) (gaps_of hr c2.among))).2.2 n
  rw [pieces_in _ hr (flat_of (xs := xs) (ys := ys) (fun n m e1 e2 => by rw [e1, e2]) (gaps_of hr c1.among) (gaps_of hr c2.among)), ← h2, h1]
theorem minusW_ok {xs ys : List Sp} (hx : ∀ x ∈ xs, okP x) (hy : ∀ x ∈ ys, okP x) : (∀ x ∈ minusW xs ys, okP x) ∧ CanL (minusW xs ys) ∧ ∀ n, inL (minusW xs ys) n ↔ inL xs n ∧ ¬ inL ys n := by
  obtain ⟨q1, q2⟩ := pieces2 (p := fun a b => a && !b) hx hy rfl
  obtain ⟨r1, r2, r3⟩ := listW_ok q1
  refine ⟨r1, r2, fun n => ?_⟩
  refine ((r3 n).trans (q2 n)).trans ?_
  rw [← hasL_iff (xs := ys), ← hasL_iff (xs := xs)]; simp
theorem minusW_len {xs ys : List Sp} (hx : ∀ x ∈ xs, okP x) (hy : ∀ x ∈ ys, okP x) : (minusW xs ys).length ≤ 4 * (xs.length + ys.length) := by
  have h1 := listW_len (pieces (minusP xs ys) (riseL (cutsOf (xs ++ ys)))) (pieces2 (p := fun a b => a && !b) hx hy rfl).1
  have h2 := pieces_len (minusP xs ys) (riseL (cutsOf (xs ++ ys)))
  have h3 := (riseL_ok (cutsOf_ok (ok_app hx hy))).2.2
  have h4 := cutsOf_len (xs ++ ys)
  rw [List.length_append] at h4
  unfold minusW; omega
def meetW (xs ys : List Sp) : List Sp := minusW xs (minusW xs ys)
theorem meetW_ok {xs ys : List Sp} (hx : ∀ x ∈ xs, okP x) (hy : ∀ x ∈ ys, okP x) : (∀ x ∈ meetW xs ys, okP x) ∧ CanL (meetW xs ys) ∧ ∀ n, inL (meetW xs ys) n ↔ inL xs n ∧ inL ys n := by
  obtain ⟨q1, q2, q3⟩ := minusW_ok hx hy
  obtain ⟨r1, r2, r3⟩ := minusW_ok hx q1
  refine ⟨r1, r2, fun n => ?_⟩
  show inL (minusW _ _) n ↔ _
  rw [r3, q3]
  by_cases inL ys n <;> by_cases inL xs n <;> simp_all
theorem both11_runs {v u : Value} {xs ys : List Sp} (hr : SRow h v xs) (hu : SRow h u ys) (hl : xs.length + ys.length ≤ 2000) : callR Xq ⟨f, []⟩ 64 [v, u] h fun w h' => SRow h' w (xs ++ ys) ∧ Low h.size h h' := by
  refine callP rfl f64_is ?_
  simp
  have l0 := Low.push (Nat.le_refl h.size) (.cells [] 46)
  refine RM_bapp (n := 0) (m := xs.length) .new rfl (by omega) (Nat.le_refl _) (by simp) (hr.low l0 (Nat.le_refl _)).src (by rw [elems_len spC_len]) (sp_one xs) (by simp) (by omega) (by omega) fun w1 h1 b1 l1 => ?_
  replace l1 := l0.trans l1
  simp
  refine RM_bapp (n := xs.length) (m := ys.length) b1 (by simpa using sp_one xs) (by omega) (Nat.le_refl _) l1.1 (hu.low l1 (Nat.le_refl _)).src (by rw [elems_len spC_len]) (sp_one ys) (by simp [elems_len spC_len]) (by omega) (by omega) fun w2 h2 b2 l2 => ?_
  replace l2 := l1.trans l2
  rw [List.nil_append, ← elems_append] at b2
  simp
  obtain ⟨w', h3, q1, q2, q3, q4⟩ := finish_buf (f := h.size) (n := (xs ++ ys).length) b2 (by omega) (by rw [elems_len spC_len]) (Nat.le_refl _) (all_below_ints (elems_ints spC_ints _))
  exact (RQ_fin q1 (by simp)).2 ⟨q4, q2.low⟩
def orW (xs ys : List Sp) : List Sp := listW (xs ++ ys)
theorem inL_or {xs ys : List Sp} (hx : ∀ x ∈ xs, okP x) (hy : ∀ x ∈ ys, okP x) : (∀ x ∈ orW xs ys, okP x) ∧ CanL (orW xs ys) ∧ ∀ n, inL (orW xs ys) n ↔ inL xs n ∨ inL ys n := by
  obtain ⟨q1, q2, q3⟩ := listW_ok (ok_app hx hy)
  exact ⟨q1, q2, fun n => by show inL (listW _) n ↔ _; rw [q3, inL_app]⟩
theorem or11_runs {v u : Value} {xs ys : List Sp} (hr : SRow h v xs) (hu : SRow h u ys) (hl : xs.length + ys.length ≤ 1000) (hx : ∀ x ∈ xs, okP x) (hy : ∀ x ∈ ys, okP x) : Runs Xq ⟨f, []⟩ 27 [v, u] h (rowV h.size (orW xs ys).length) (pushR h 46 (elems spC (orW xs ys))) := by
  refine runs_R rfl f27_is ?_
  simp
  refine RF_by (both11_runs hr hu (by omega)) fun w h1 ⟨q1, q2⟩ => ?_
  have s1 := q2.1
  simp [RF_of (list3_runs q1 (by rw [List.length_append]; omega) (ok_app hx hy))]
  simp (disch := first | omega | decide | with_unfolding_all rfl) [RQ_rowV (xs := listW (xs ++ ys)) spC_len spC_ints, orW]
theorem and11_runs {v u : Value} {xs ys : List Sp} (hr : SRow h v xs) (hu : SRow h u ys) (hl : xs.length + ys.length ≤ 80) (hx : ∀ x ∈ xs, okP x) (hy : ∀ x ∈ ys, okP x) : Runs Xq ⟨f, []⟩ 29 [v, u] h (rowV h.size (meetW xs ys).length) (pushR h 46 (elems spC (meetW xs ys))) := by
  refine runs_R rfl f29_is ?_
  have := minusW_len hx hy
  have hm : Runs Xq ⟨h.size, []⟩ 66 [v, u] h (rowV h.size (meetW xs ys).length) (pushR h 46 (elems spC (meetW xs ys))) := meet3_runs hr hu (by omega) (by omega) hx hy (minusW_ok hx hy).1
  simp [RF_of hm]
  simp (disch := first | omega | decide | with_unfolding_all rfl) [RQ_rowV (h := h) (xs := meetW xs ys) spC_len spC_ints]
theorem minus11_runs {v u : Value} {xs ys : List Sp} (hr : SRow h v xs) (hu : SRow h u ys) (hl : xs.length + ys.length ≤ 400) (hx : ∀ x ∈ xs, okP x) (hy : ∀ x ∈ ys, okP x) : Runs Xq ⟨f, []⟩ 31 [v, u] h (rowV h.size (minusW xs ys).length) (pushR h 46 (elems spC (minusW xs ys))) := by
  refine runs_R rfl f31_is ?_
  simp [RF_of (minus3_runs hr hu hl hx hy)]
  simp (disch := first | omega | decide | with_unfolding_all rfl) [RQ_rowV (h := h) (xs := minusW xs ys) spC_len spC_ints]
def xorW (xs ys : List Sp) : List Sp := orW (minusW xs ys) (minusW ys xs)
theorem xorW_ok {xs ys : List Sp} (hx : ∀ x ∈ xs, okP x) (hy : ∀ x ∈ ys, okP x) : (∀ x ∈ xorW xs ys, okP x) ∧ CanL (xorW xs ys) ∧ ∀ n, inL (xorW xs ys) n ↔ (inL xs n ∧ ¬ inL ys n) ∨ (inL ys n ∧ ¬ inL xs n) := by
  obtain ⟨a1, a2, a3⟩ := minusW_ok hx hy
  obtain ⟨b1, b2, b3⟩ := minusW_ok hy hx
  obtain ⟨q1, q2, q3⟩ := inL_or a1 b1
  exact ⟨q1, q2, fun n => by rw [← a3, ← b3]; exact q3 n⟩
theorem xor11_runs {v u : Value} {xs ys : List Sp} (hr : SRow h v xs) (hu : SRow h u ys) (hl : xs.length + ys.length ≤ 80) (hx : ∀ x ∈ xs, okP x) (hy : ∀ x ∈ ys, okP x) : Runs Xq ⟨f, []⟩ 33 [v, u] h (rowV h.size (xorW xs ys).length) (pushR h 46 (elems spC (xorW xs ys))) := by
  refine runs_R rfl f33_is ?_
  have n1 := minusW_len hx hy
  have n2 := minusW_len hy hx
  simp [RF_of (minus11_runs hr hu (by omega) hx hy)]
  have q1 := row_pushR (h := h) (e := 46) (xs := minusW xs ys) spC_len (by omega)
  have l1 := low_pushR (Nat.le_refl h.size) 46 (elems spC (minusW xs ys))
  generalize rowV h.size (minusW xs ys).length = v1 at *
  generalize pushR h 46 (elems spC (minusW xs ys)) = h1 at *
  rw [RF_of (minus11_runs (hu.low l1 (Nat.le_refl _)) (hr.low l1 (Nat.le_refl _)) (by omega) hy hx)]
  have q2 := row_pushR (h := h1) (e := 46) (xs := minusW ys xs) spC_len (by omega)
  have l2 := low_pushR (Nat.le_refl h1.size) 46 (elems spC (minusW ys xs))
  simp
  generalize rowV h1.size (minusW ys xs).length = v2 at *
  generalize pushR h1 46 (elems spC (minusW ys xs)) = h2 at *
  have s1 := l1.1
  have s2 := l2.1
  rw [RF_of (or11_runs (q1.low l2 (Nat.le_refl _)) q2 (by omega) (minusW_ok hx hy).1 (minusW_ok hy hx).1)]
  simp (disch := first | omega | decide | with_unfolding_all rfl) [RQ_rowV (h := h2) (xs := orW (minusW xs ys) (minusW ys xs)) spC_len spC_ints, xorW]
end Go.Proofs.Ytlgbeekhaoiggaa
end

section
namespace Go.Proofs.Ytlgbeekhaoiggaa
open Go.AM
set_option maxHeartbeats 4000000
variable {f : Nat} {h : Heap}
def refineW (xs ys : List Sp) : List Sp := pieces (hasL xs) (riseL (cutsOf (xs ++ ys)))
theorem refine11_runs {v u : Value} {xs ys : List Sp} (hr : SRow h v xs) (hu : SRow h u ys) (hl : xs.length + ys.length ≤ 400) (hx : ∀ x ∈ xs, okP x) (hy : ∀ x ∈ ys, okP x) : Runs Xq ⟨f, []⟩ 39 [v, u] h (rowV h.size (refineW xs ys).length) (pushR h 46 (elems spC (refineW xs ys))) := by
  refine runs_R rfl f39_is ?_
  simp
  refine RF_by (both11_runs hr hu (by omega)) fun w2 h2 ⟨hro, l2⟩ => ?_
  have hxy := ok_app hx hy
  have hcl := cutsOf_len (xs ++ ys)
  obtain ⟨hcs, hcm, hcn⟩ := riseL_ok (cutsOf_ok hxy)
  rw [List.length_append] at hcl
  simp [RF_of (cuts3_runs hro (by simp; omega) hxy)]
  have hc := row_pushR (h := h2) (e := 44) (xs := riseL (cutsOf (xs ++ ys))) cuC_len (by omega)
  have hq0 := l2.up (low_pushR (Nat.le_refl h2.size) 44 (elems cuC (riseL (cutsOf (xs ++ ys))))) l2.1
  unfold refineW
  generalize riseL (cutsOf (xs ++ ys)) = cs at *
  generalize rowV h2.size cs.length = vc at *
  generalize pushR h2 44 (elems cuC cs) = hq at *
  have hR := hc.R cuC_len
  have hlt := hc.lt
  have sq := hq0.1
  have i0 : Own hq.size hq 46 4 (.slice none 0 0) (elems spC (pieces (hasL xs) (cs.take 1))) := by cases cs <;> simp [pieces] <;> exact .nil
  obtain ⟨J, hJ⟩ : ∃ J : Nat × Value → Env → Heap → Prop, J = fun x e h' => e 6 = x.2 ∧ e 7 = .int .i64 (x.1 : Nat) ∧ x.1 + 1 ≤ cs.length + 1 ∧ Own hq.size h' 46 4 x.2 (elems spC (pieces (hasL xs) (cs.take (x.1 + 1)))) ∧ Low hq.size hq h' := ⟨_, rfl⟩
  refine Run_while xlow [14, 15, 16, 17, 18, 22, 23, 24, 25, 26, 21, 27, 28, 8, 9, 29, 30, 31, 32, 33, 34, 35, 36, 37, 38, 39, 40, 41, 42, 43, 44, 6, 19, 20, 7] sq J (fun x => cs.length - x.1) (0, .slice none 0 0) rfl (hJ ▸ ⟨by simp, by simp, by simp, i0, .refl _ _⟩) ?_
  rintro ⟨i, w⟩ e h' j0 ke _
  rw [hJ] at j0
  obtain ⟨e6, e7, hi, ho, hl'⟩ := j0
  simp only at e6 e7 hi ho
  have e0 : e 0 = v := by rw [ke 0 (by decide)]; simp
  have e5 : e 5 = vc := by rw [ke 5 (by decide)]; simp
  clear ke
  have s1 := hl'.1
  by_cases hlt2 : i + 1 < cs.length
  · obtain ⟨r1, r2, r3⟩ := rise_nth hcs hlt2
    have hr' : SRow h' v xs := (hr.low hq0 (Nat.le_refl _)).low hl' (Nat.le_refl _)
    have hpl := pieces_len (hasL xs) (cs.take (i + 1))
    rw [List.length_take] at hpl
    have hpt := pieces_take (hasL xs) hlt2
    have hi1 : ((i : Int) + 1) = ((i + 1 : Nat) : Int) := by omega
    cases hh : hasL xs (keyC (nth cs i)) with
    | false =>
      rw [pieceAt, hh, if_neg (by simp), List.append_nil] at hpt
      simp +contextual (disch := first | omega | decide | with_unfolding_all rfl) [e0, e5, e6, e7, hR, hl'.c, hlt2, RF_of (up next_runs), cuC, r3, RF_of (up (anyN_runs hr' (by omega) hx r2)), hh]
      exact .mk (i + 1, w) (hJ ▸ ⟨by simp [e6], by simp, by simp only; omega, by simp only; rw [hpt]; exact ho, hl'⟩) (by simp only; omega)
    | true =>
      rw [pieceAt, hh, if_pos rfl] at hpt
      simp +contextual (disch := first | omega | decide | with_unfolding_all rfl) [e0, e5, e6, e7, hR, hl'.c, hlt2, RF_of (up next_runs), cuC, r3, RF_of (up (anyN_runs hr' (by omega) hx r2)), hh]
      refine RM_app1 (n := (pieces (hasL xs) (cs.take (i + 1))).length) ho sq s1 (by rw [elems_len spC_len]) rfl (by omega) rfl (by omega) (by omega) fun w2 h2 o2 l2 => ?_
      simp (disch := first | omega | decide | with_unfolding_all rfl) [e7]
      refine .mk (i + 1, w2) (hJ ▸ ⟨by simp, by simp, by simp only; omega, ?_, hl'.trans l2⟩) (by simp only; omega)
      simp only; rw [hpt]; simpa [spC] using o2
  · rw [List.take_of_length_le (by omega)] at ho
    simp +contextual (disch := first | omega | decide | with_unfolding_all rfl) [e0, e5, e6, e7, hR, hlt2]
    exact RQ_own (ho.weak sq) spC_len (by omega) (all_below_ints (elems_ints spC_ints _)) ⟨rfl, rfl⟩
theorem eqs_cu (x y : Int × Int) : eqs [.i, .i] [.int .i64 x.1, .int .i64 x.2] [.int .i64 y.1, .int .i64 y.2] = some (decide (x = y)) := by
  simp [Prod.ext_iff, Bool.decide_and, ← Bool.beq_eq_decide_eq]
theorem same2_runs {v u : Value} {xs ys : List (Int × Int)} (hr : CRow h v xs) (hu : CRow h u ys) (hl : xs.length ≤ 100000) : Runs Xq ⟨f, []⟩ 40 [v, u] h (.bool (decide (xs = ys))) h := by
  refine runs_R rfl f40_is ?_
  have hR := hr.R cuC_len
  have hlt := hr.lt
  have hU := hu.R cuC_len
  have hut := hu.lt
  by_cases hn : xs.length = ys.length
  · simp [hR, hU, hn]
    obtain ⟨J, hJ⟩ : ∃ J : Nat → Env → Heap → Prop, J = fun i e h' => e 5 = .int .i64 (i : Nat) ∧ i ≤ xs.length ∧ (xs = ys ↔ xs.drop i = ys.drop i) := ⟨_, rfl⟩
    refine Run_while xlow [11, 12, 13, 14, 17, 18, 19, 20, 21, 22, 23, 24, 25, 4, 15, 16, 5] (Nat.le_refl _) J (fun i => xs.length - i) 0 rfl (hJ ▸ ⟨by simp, by simp, by simp⟩) ?_
    rintro i e h' j0 ke hl'
    rw [hJ] at j0
    obtain ⟨e5, hi, hq⟩ := j0
    have e0 : e 0 = v := by rw [ke 0 (by decide)]; simp
    have e1 : e 1 = u := by rw [ke 1 (by decide)]; simp
    clear ke
    by_cases hlt2 : i < xs.length
    · rw [nth_drop hlt2, nth_drop (show i < ys.length by omega)] at hq
      by_cases hx : nth xs i = nth ys i
      · simp +contextual (disch := first | omega | decide | with_unfolding_all rfl) [e0, e1, e5, hR, hU, hl'.c, cuC, eqs_cu, hx]
        exact .mk (i + 1) (hJ ▸ ⟨by simp, by omega, by rw [hq, hx]; simp⟩) (by omega)
      · simp +contextual (disch := first | omega | decide | with_unfolding_all rfl) [e0, e1, e5, hR, hU, hl'.c, cuC, eqs_cu, hx]
        exact ⟨fun _ q => by rw [hq] at q; simp [hx] at q, fun a b => absurd (Prod.ext a b) hx⟩
    · have hd : xs = ys := hq.2 (by rw [List.drop_eq_nil_of_le (by omega), List.drop_eq_nil_of_le (by omega)])
      simp +contextual (disch := first | omega | decide | with_unfolding_all rfl) [e0, e1, e5, hR, hU]
  · have hne : ¬ xs = ys := fun q => hn (by rw [q])
    simp (disch := first | omega | decide | with_unfolding_all rfl) [hR, hU, hn]
end Go.Proofs.Ytlgbeekhaoiggaa
end
