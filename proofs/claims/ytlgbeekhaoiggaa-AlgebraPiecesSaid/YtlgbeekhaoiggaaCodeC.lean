import Derived.Test.YtlgbeekhaoiggaaCodeB
import Derived.Test.YtlgbeekhaoiggaaAmI
import Derived.Test.YtlgbeekhaoiggaaAmJ
set_option linter.all false
section
namespace Go.Proofs.Ytlgbeekhaoiggaa
open Go.AM
set_option maxHeartbeats 4000000
variable {f : Nat} {h : Heap}
instance : Inhabited Sp := ⟨⟨0, 0, 0, 0⟩⟩
theorem sCopy_low {T : TypeId} {κ : Ctx} {a : List Value} {h h' : Heap} {v : Value} (e : sCopy T κ a h = some (v, h')) : Low κ.fl h h' := by
  unfold sCopy at e
  split at e
  · split at e
    · cases e
    · split at e
      · split at e
        · cases e
        · split at e
          · obtain ⟨x, hx, q⟩ := Option.map_eq_some_iff.1 e; cases q; exact wr_low hx
          · split at e <;> cases e; exact .refl _ _
          · cases e
      · cases e
  · cases e
theorem sString_low {T U : TypeId} {κ : Ctx} {a : List Value} {h h' : Heap} {v : Value} (e : sString T U κ a h = some (v, h')) : Low κ.fl h h' := by
  unfold sString at e
  split at e
  · split at e
    · cases e
    · split at e
      · split at e
        · cases e
        · split at e
          · cases e; exact .refl _ _
          · split at e
            · cases e
            · rename_i hc
              simp only [not_or, Nat.not_lt] at hc
              split at e
              · split at e
                · cases e
                · obtain ⟨x, hx, q⟩ := Option.map_eq_some_iff.1 e; cases q; exact .set hc.2.2.1 _
              · cases e
          · cases e
      · cases e
  · cases e
theorem xlowB : XLow X := by
  intro g s hs κ a h v h' _ e
  have h' : extS g = some s := hs
  unfold extS at h'
  split at h'
  · cases h'; exact sCopy_low e
  · split at h'
    · cases h'; exact sString_low e
    · cases h'
def cmpS (x y : Sp) : Int := if cmpC (x.a, x.b) (y.a, y.b) = 0 then cmpC (x.c, x.d) (y.c, y.d) else cmpC (x.a, x.b) (y.a, y.b)
theorem spanCmp_runs {x y : Sp} : Runs X ⟨f, []⟩ 97 [spW x, spW y] h (.int .i64 (cmpS x y)) h := by
  refine runs_R rfl f97_is ?_
  simp [RF_of compare_runs]
  rw [RF_of (or_runs (x := cmpC (x.a, x.b) (y.a, y.b)) (y := cmpC (x.c, x.d) (y.c, y.d)) (by simp) (by simp))]
  simp [cmpS]
theorem last_ne {α : Type} [Inhabited α] {l : List α} (h : l.length ≠ 0) : l.getLast? = some (nth l (l.length - 1)) := by
  rw [List.getLast?_eq_getElem?, nth_get (by omega)]
end Go.Proofs.Ytlgbeekhaoiggaa
end

section
namespace Go.Proofs.Ytlgbeekhaoiggaa
open Go.AM Go.Sort
def spD : List Value → Option Sp
  | [.int .i64 a, .int .i64 b, .int .i64 c, .int .i64 d] => some ⟨a, b, c, d⟩
  | _ => none
def cuD : List Value → Option (Int × Int)
  | [.int .i64 a, .int .i64 b] => some (a, b)
  | _ => none
theorem spD_of (l : List Value) (x : Sp) (h : spD l = some x) : l = spC x := by
  unfold spD at h; split at h <;> cases h; rfl
theorem cuD_of (l : List Value) (x : Int × Int) (h : cuD l = some x) : l = cuC x := by
  unfold cuD at h; split at h <;> cases h; rfl
abbrev sSpan := sSort spC spD 4 cmpS 97
abbrev sCut := sSort cuC cuD 2 cmpC 103
def extQ (g : FuncId) : Option (Ctx → List Value → Heap → Option (Value × Heap)) :=
  if g = 96 then some sSpan else if g = 105 then some sCut else extS g
noncomputable def Xq : Tab := { fn := X.fn, ext := extQ, meth := X.meth }
theorem le_q : Tab.le X Xq := by
  refine ⟨fun g s h => ?_, fun g f h1 h2 => ?_, rfl⟩
  · have h' : extS g = some s := h
    have : extQ g = extS g := by
      unfold extQ
      split
      · rename_i hg; subst hg; cases h'
      · split
        · rename_i hg; subst hg; cases h'
        · rfl
    exact this.trans h'
  · refine ⟨?_, h2⟩
    have h1' : extS g = none := h1
    have h2' : (bif sorts g then none else cFn Try.prog (flS g) g) = some f := h2
    show extQ g = none
    unfold extQ
    split
    · rename_i hg; subst hg; cases h2'
    · split
      · rename_i hg; subst hg; cases h2'
      · exact h1'
theorem up {κ : Ctx} {g : FuncId} {a : List Value} {h h' : Heap} {v : Value} (r : Runs X κ g a h v h') : Runs Xq κ g a h v h' := r.up le_q
theorem sSort_low {α : Type} [Inhabited α] {enc : α → List Value} {dec : List Value → Option α} {k : Nat} {cf : α → α → Int} {cmp : FuncId} {κ : Ctx} {a : List Value} {h h' : Heap} {v : Value} (e : sSort enc dec k cf cmp κ a h = some (v, h')) : Low κ.fl h h' := by
  unfold sSort at e
  split at e
  · split at e
    · cases e; exact .refl _ _
    · split at e
      · split at e
        · split at e
          · cases e
          · split at e
            · split at e
              · obtain ⟨x, hx, q⟩ := Option.map_eq_some_iff.1 e; cases q; exact wr_low hx
              · cases e
            · cases e
        · cases e
      · cases e
  · cases e
theorem xlow : XLow Xq := by
  intro g s hs κ a h v h' hf e
  have h' : extQ g = some s := hs
  unfold extQ at h'
  split at h'
  · cases h'; exact sSort_low e
  · split at h'
    · cases h'; exact sSort_low e
    · exact xlowB g s h' κ a h v _ hf e
theorem cmpC_cases (x y : Int × Int) : cmpC x y = -1 ∧ cmpC y x = 1 ∧ ((canon x).1 < (canon y).1 ∨ (canon x).1 = (canon y).1 ∧ (canon x).2 < (canon y).2) ∨ cmpC x y = 0 ∧ cmpC y x = 0 ∧ canon x = canon y ∨ cmpC x y = 1 ∧ cmpC y x = -1 ∧ ((canon y).1 < (canon x).1 ∨ (canon x).1 = (canon y).1 ∧ (canon y).2 < (canon x).2) := by
  have : canon x = canon y ↔ (canon x).1 = (canon y).1 ∧ (canon x).2 = (canon y).2 := Prod.ext_iff
  rw [this]
  unfold cmpC cmpI
  generalize canon x = p; generalize canon y = q
  repeat' split
  all_goals omega
theorem cmpC_lt (x y : Int × Int) : cmpC x y < 0 ↔ (canon x).1 < (canon y).1 ∨ (canon x).1 = (canon y).1 ∧ (canon x).2 < (canon y).2 := by
  have h := cmpC_cases x y
  simp only [Prod.ext_iff] at h; omega
theorem swoCut : SWO (ltOf cmpC) := by
  constructor <;> unfold ltOf
  · intro x; simp only [decide_eq_false_iff_not, cmpC_lt]; omega
  · intro x y z; simp only [decide_eq_true_eq, cmpC_lt]; omega
  · intro x y z; simp only [decide_eq_false_iff_not, cmpC_lt]; omega
theorem cmpS_neg (x y : Sp) : cmpS x y < 0 ↔ (canon (x.a, x.b)).1 < (canon (y.a, y.b)).1 ∨ (canon (x.a, x.b)).1 = (canon (y.a, y.b)).1 ∧ ((canon (x.a, x.b)).2 < (canon (y.a, y.b)).2 ∨ (canon (x.a, x.b)).2 = (canon (y.a, y.b)).2 ∧
    ((canon (x.c, x.d)).1 < (canon (y.c, y.d)).1 ∨ (canon (x.c, x.d)).1 = (canon (y.c, y.d)).1 ∧ (canon (x.c, x.d)).2 < (canon (y.c, y.d)).2)) := by
  have h := cmpC_cases (x.a, x.b) (y.a, y.b); have k := cmpC_cases (x.c, x.d) (y.c, y.d)
  simp only [Prod.ext_iff] at h k
  unfold cmpS
  split <;> omega
theorem swoSpan : SWO (ltOf cmpS) := by
  constructor <;> unfold ltOf
  · intro x; simp only [decide_eq_false_iff_not, cmpS_neg]; omega
  · intro x y z; simp only [decide_eq_true_eq, cmpS_neg]; omega
  · intro x y z; simp only [decide_eq_false_iff_not, cmpS_neg]; omega
end Go.Proofs.Ytlgbeekhaoiggaa
end

section
namespace Go.Proofs.Ytlgbeekhaoiggaa
open Go.AM
set_option maxHeartbeats 4000000
variable {f : Nat} {h : Heap}
def insC (c : Int × Int) : List (Int × Int) → List (Int × Int)
  | [] => [c]
  | d :: ds => if keyC c < keyC d then c :: d :: ds else if keyC c = keyC d then d :: ds else d :: insC c ds
def riseL (l : List (Int × Int)) : List (Int × Int) := l.foldr (fun c => insC (canon c)) []
theorem insC_rise {c : Int × Int} (hc : okN c.2 ∧ canon c = c) : ∀ {ds : List (Int × Int)}, Rise ds → Rise (insC c ds) ∧ (∀ x, x ∈ insC c ds ↔ x = c ∨ x ∈ ds) ∧ (insC c ds).length ≤ ds.length + 1
  | [], _ => ⟨⟨by simpa [insC] using hc, by simp [insC]⟩, by simp [insC], by simp [insC]⟩
  | d :: ds, h => by
    unfold insC
    split
    · rename_i hlt
      refine ⟨⟨fun x hx => ?_, List.pairwise_cons.2 ⟨fun x hx => ?_, h.up⟩⟩, by simp, by simp⟩
      · rcases List.mem_cons.1 hx with rfl | hx
        · exact hc
        · exact h.ok x hx
      · rcases List.mem_cons.1 hx with rfl | hx
        · exact hlt
        · have := h.head x hx; omega
    · split
      · rename_i h1 he
        have hd := h.ok d (by simp)
        have : c = d := key_inj hc.1 hd.1 hc.2 hd.2 he
        subst this
        exact ⟨h, by simp, by simp⟩
      · rename_i h1 he
        obtain ⟨r, m, l⟩ := insC_rise hc h.tail
        refine ⟨⟨fun x hx => ?_, List.pairwise_cons.2 ⟨fun x hx => ?_, r.up⟩⟩, fun x => ?_, by simp; exact l⟩
        · rcases List.mem_cons.1 hx with rfl | hx
          · exact h.ok x (by simp)
          · exact r.ok x hx
        · rcases (m x).1 hx with rfl | hx
          · omega
          · exact h.head x hx
        · rw [List.mem_cons, m, List.mem_cons]; constructor <;> (rintro (q | q | q) <;> simp [q])
theorem riseL_ok : ∀ {l : List (Int × Int)}, (∀ x ∈ l, okN x.2) → Rise (riseL l) ∧ (∀ c, c ∈ riseL l ↔ ∃ x ∈ l, canon x = c) ∧ (riseL l).length ≤ l.length
  | [], _ => ⟨⟨by simp [riseL], by simp [riseL]⟩, by simp [riseL], by simp [riseL]⟩
  | x :: l, h => by
    obtain ⟨r, m, n⟩ := riseL_ok (l := l) (fun y hy => h y (by simp [hy]))
    obtain ⟨r2, m2, n2⟩ := insC_rise (c := canon x) ⟨okN_canon (h x (by simp)), canon_canon x⟩ r
    refine ⟨r2, fun c => ?_, by simp [riseL] at *; omega⟩
    show c ∈ insC (canon x) (riseL l) ↔ _
    rw [m2, m]; simp; constructor <;> (rintro (q | q) <;> simp [q])
theorem riseL_eq {l out : List (Int × Int)} (h : ∀ x ∈ l, okN x.2) (r : Rise out) (m : ∀ c, c ∈ out ↔ ∃ x ∈ l, canon x = c) : out = riseL l :=
  rise_eq r (riseL_ok h).1 fun c => by rw [m, (riseL_ok h).2.1]
theorem sort2_runs {v : Value} {l : List (Int × Int)} (hr : CRow h v l) (hl : l.length ≤ 100000) (hok : ∀ x ∈ l, okN x.2) : Runs Xq ⟨f, []⟩ 75 [v] h (rowV h.size (riseL l).length) (pushR h 44 (elems cuC (riseL l))) := by
  suffices callR Xq ⟨f, []⟩ 75 [v] h fun w h' => ∃ out, Rise out ∧ (∀ c, c ∈ out ↔ ∃ x ∈ l, canon x = c) ∧ out.length ≤ l.length ∧ w = rowV h.size out.length ∧ h' = pushR h 44 (elems cuC out) by
    obtain ⟨w, h', r, out, a, b, c, rfl, rfl⟩ := this; rw [← riseL_eq hok a b]; exact r
  refine callP rfl f75_is ?_
  have hR := hr.R cuC_len
  have hlt := hr.lt
  simp
  have hcl : l.countP (aboveC none) ≤ l.length := List.countP_le_length
  obtain ⟨J, hJ⟩ : ∃ J : List (Int × Int) × Value → Env → Heap → Prop, J = fun x e h' => e 3 = x.2 ∧ Taken l x.1 ∧ x.1.length + l.countP (aboveC x.1.getLast?) ≤ l.length ∧ Own h.size h' 44 2 x.2 (elems cuC x.1) := ⟨_, rfl⟩
  refine Run_while xlow [4, 5, 6, 8, 9, 10, 11, 14, 15, 16, 17, 18, 19, 20, 21, 22, 23, 24, 25, 26, 27, 28, 29, 7, 30, 31, 32, 33, 34, 35, 36, 37, 38, 39, 40, 41, 42, 43, 44, 45, 46, 47, 4, 12, 13, 6, 48, 49, 50, 2, 51, 52, 53, 54, 3] (Nat.le_refl _) J (fun x => l.countP (aboveC x.1.getLast?)) ([], .slice none 0 0) rfl (hJ ▸ ⟨by simp, .start l, by simpa using hcl, .nil⟩) ?_
  rintro ⟨out, w⟩ e h' j0 ke hl'
  rw [hJ] at j0
  obtain ⟨e3, T, hc, ho⟩ := j0
  simp only at e3 T hc ho
  have e0 : e 0 = v := by rw [ke 0 (by decide)]; simp
  clear ke
  have hw := (ho.row cuC_len (by omega)).R cuC_len
  have hwt := (ho.row cuC_len (by omega)).lt
  have hol : out.length ≤ l.length := by omega
  have s1 := hl'.1
  simp [e3]
  obtain ⟨I, hI⟩ : ∃ I : Nat × Option (Int × Int) → Env → Heap → Prop, I = fun x e h2 => e 4 = .bool x.2.isSome ∧ e 6 = .int .i64 (x.1 : Nat) ∧ x.1 ≤ l.length ∧ leastS out.getLast? l = (l.drop x.1).foldl (stepS out.getLast?) x.2 ∧ Low h'.size h' h2 ∧ h2[h'.size]? = some (.cells (cuC (x.2.getD (0, 0))) 44) := ⟨_, rfl⟩
  refine Run_while xlow [8, 9, 10, 11, 14, 15, 16, 17, 18, 19, 20, 21, 22, 23, 24, 25, 26, 27, 28, 29, 7, 30, 31, 32, 33, 34, 35, 36, 37, 38, 39, 40, 41, 42, 43, 44, 45, 46, 47, 4, 12, 13, 6] (by simp; omega) I (fun x => l.length - x.1) (0, none) rfl (hI ▸ ⟨by simp, by simp, by simp, rfl, .push (Nat.le_refl _) _, by simp [cuC]⟩) ?_
  rintro ⟨i, acc⟩ e2 h2 i0 ke2 _
  rw [hI] at i0
  obtain ⟨e4, e6, hi, hf, hl2, hc2⟩ := i0
  simp only at e4 e6 hi hf hc2
  have q0 : e2 0 = v := by rw [ke2 0 (by decide)]; simp [e0]
  have q3 : e2 3 = w := by rw [ke2 3 (by decide)]; simp [e3]
  have q5 : e2 5 = .pointer (some ⟨h'.size, 0, none⟩) := by rw [ke2 5 (by decide)]; simp
  clear ke2
  have g2 := cellsB hc2
  have s2 := hl2.1
  have sz2 := ltB hc2
  by_cases hlt2 : i < l.length
  · rw [nth_drop hlt2, List.foldl_cons] at hf
    generalize hx : nth l i = x at hf
    have K : ∀ (acc2 : Option (Int × Int)) (h3 : Heap) (E : Env), stepS out.getLast? acc x = acc2 → E 4 = .bool acc2.isSome → E 6 = .int .i64 ((i : Int) + 1) → (h3 = h2 ∧ acc2 = acc ∨ h3 = h2.setIfInBounds h'.size (.cells (cuC (acc2.getD (0, 0))) 44)) →
        Head I (fun x => l.length - x.1) (i, acc) E h3 ⟨⟩ := by
      intro acc2 h3 E hs a4 a6 ah
      refine .mk (i + 1, acc2) (hI ▸ ⟨a4, by rw [a6]; simp, by simp only; omega, by rw [hf, hs], ?_⟩) (by simp only; omega)
      rcases ah with ⟨rfl, rfl⟩ | rfl
      · exact ⟨hl2, hc2⟩
      · exact ⟨hl2.setR (Nat.le_refl _) _, by rw [Array.getElem?_setIfInBounds, if_pos rfl, if_pos sz2]⟩
    clear hf hok T ho hr
    have hlx : ∀ p : Int × Int, lessC (p.1, p.2) (x.1, x.2) = lessC p x := fun p => rfl
    have hlx2 : ∀ p : Int × Int, lessC (x.1, x.2) (p.1, p.2) = lessC x p := fun p => rfl
    have hcx : canon (x.1, x.2) = canon x := rfl
    by_cases ho0 : out.length = 0
    · obtain rfl := List.eq_nil_of_length_eq_zero ho0
      cases acc with
      | none => 
        simp +contextual (maxSteps := 1000000) (disch := first | omega | decide | with_unfolding_all rfl) [q0, q3, q5, e4, e6, hR, hw, hl2.c, hl'.c, g2, hlt2, wr_def hc2, RF_of (up less_runs), RF_of (up canon2_runs), cuC, hx]
        exact K (some (canon x)) _ _ rfl (by simp) (by simp) (.inr rfl)
      | some n => 
        simp +contextual (maxSteps := 1000000) (disch := first | omega | decide | with_unfolding_all rfl) [q0, q3, q5, e4, e6, hR, hw, hl2.c, hl'.c, g2, hlt2, wr_def hc2, RF_of (up less_runs), RF_of (up canon2_runs), cuC, hx, hlx, hlx2]
        exact ⟨fun hb => K (some (canon x)) _ _ (if_pos ⟨rfl, hb⟩) (by simp) (by simp) (.inr rfl), fun hb => K (some n) _ _ (if_neg fun q => Bool.eq_false_iff.1 hb q.2) (by simp [e4]) (by simp) (.inl ⟨rfl, rfl⟩)⟩
    · rw [last_ne ho0] at K
      cases acc with
      | none => 
        simp +contextual (maxSteps := 1000000) (disch := first | omega | decide | with_unfolding_all rfl) [q0, q3, q5, e4, e6, hR, hw, hl2.c, hl'.c, g2, hlt2, wr_def hc2, RF_of (up less_runs), RF_of (up canon2_runs), cuC, hx, ho0, hlx]
        exact ⟨fun hb => K (some (canon x)) _ _ (if_pos ⟨hb, rfl⟩) (by simp) (by simp) (.inr rfl), fun hb => K none _ _ (if_neg fun q => Bool.eq_false_iff.1 hb q.1) (by simp [e4]) (by simp) (.inl ⟨rfl, rfl⟩)⟩
      | some n => 
        simp +contextual (maxSteps := 1000000) (disch := first | omega | decide | with_unfolding_all rfl) [q0, q3, q5, e4, e6, hR, hw, hl2.c, hl'.c, g2, hlt2, wr_def hc2, RF_of (up less_runs), RF_of (up canon2_runs), cuC, hx, ho0, hlx, hlx2]
        exact ⟨fun hb => ⟨fun hd => K (some (canon x)) _ _ (if_pos ⟨hb, hd⟩) (by simp) (by simp) (.inr rfl), fun hd => K (some n) _ _ (if_neg fun q => Bool.eq_false_iff.1 hd q.2) (by simp [e4]) (by simp) (.inl ⟨rfl, rfl⟩)⟩, fun hb => K (some n) _ _ (if_neg fun q => Bool.eq_false_iff.1 hb q.1) (by simp [e4]) (by simp) (.inl ⟨rfl, rfl⟩)⟩
  · rw [List.drop_eq_nil_of_le (by omega)] at hf
    simp only [List.foldl_nil] at hf
    cases acc with
    | none =>
      simp +contextual (disch := first | omega | decide | with_unfolding_all rfl) [q0, q3, q5, e4, e6, hR, hw, hlt2]
      refine RQ_own (ho.low hl2 (Nat.le_refl _)) cuC_len (by omega) (all_below_ints (elems_ints cuC_ints _)) ⟨out, T.up, T.done hok hf, hol, rfl, rfl⟩
    | some n =>
      have T2 := T.step hok hf
      have hcount := T.count hok hf
      have e2' : (out ++ [n]).getLast? = some n := List.getLast?_concat
      simp +contextual (disch := first | omega | decide | with_unfolding_all rfl) [q0, q3, q5, e4, e6, hR, hw, g2, hlt2, cuC]
      refine RM_app1 (n := out.length) (ho.low hl2 (Nat.le_refl _)) (Nat.le_refl _) (by omega) (by rw [elems_len cuC_len]) rfl (by omega) rfl (by omega) (by omega) fun w3 h3 o3 l3 => ?_
      simp
      exact .mk (out ++ [n], w3) (hJ ▸ ⟨by simp, T2, by rw [e2']; simp; omega, by rw [elems_append]; simpa [cuC] using o3⟩) (by simp only [e2']; exact hcount)
end Go.Proofs.Ytlgbeekhaoiggaa
end

section
namespace Go.Proofs.Ytlgbeekhaoiggaa
open Go.AM
set_option maxHeartbeats 4000000
variable {f : Nat} {h : Heap}
def cutS (s : Sp) : List (Int × Int) := if s.right = true then [(s.a, s.b), (s.c, s.d)] else []
def cutsOf (xs : List Sp) : List (Int × Int) := xs.flatMap cutS
theorem cutsOf_len : ∀ (xs : List Sp), (cutsOf xs).length ≤ 2 * xs.length
  | [] => by simp [cutsOf]
  | x :: xs => by
    have := cutsOf_len xs
    have : (cutS x).length ≤ 2 := by unfold cutS; split <;> simp
    simp [cutsOf] at *; omega
theorem cutsOf_ok {xs : List Sp} (hx : ∀ x ∈ xs, okP x) : ∀ c ∈ cutsOf xs, okN c.2 := by
  intro c hc
  obtain ⟨s, hs, hc⟩ := List.mem_flatMap.1 hc
  unfold cutS at hc
  split at hc
  · simp at hc; rcases hc with rfl | rfl
    · exact (hx s hs).1
    · exact (hx s hs).2
  · simp at hc
theorem cuts3_runs {v : Value} {xs : List Sp} (hr : SRow h v xs) (hl : xs.length ≤ 1000) (hx : ∀ x ∈ xs, okP x) : Runs Xq ⟨f, []⟩ 41 [v] h (rowV h.size (riseL (cutsOf xs)).length) (pushR h 44 (elems cuC (riseL (cutsOf xs)))) := by
  refine runs_R rfl f41_is ?_
  have hR := hr.R spC_len
  have hlt := hr.lt
  simp
  obtain ⟨J, hJ⟩ : ∃ J : Nat × Value → Env → Heap → Prop, J = fun x e h' => e 3 = x.2 ∧ e 4 = .int .i64 (x.1 : Nat) ∧ x.1 ≤ xs.length ∧ Own h.size h' 44 2 x.2 (elems cuC (cutsOf (xs.take x.1))) := ⟨_, rfl⟩
  refine Run_while xlow [5, 6, 7, 8, 11, 12, 13, 14, 15, 16, 17, 18, 19, 20, 21, 22, 23, 24, 25, 26, 27, 28, 3, 9, 10, 4] (Nat.le_refl _) J (fun x => xs.length - x.1) (0, .slice none 0 0) rfl (hJ ▸ ⟨by simp, by simp, by simp, .nil⟩) ?_
  rintro ⟨i, w⟩ e h' j0 ke hl'
  rw [hJ] at j0
  obtain ⟨e3, e4, hi, ho⟩ := j0
  simp only at e3 e4 hi ho
  have e0 : e 0 = v := by rw [ke 0 (by decide)]; simp
  clear ke
  have s1 := hl'.1
  by_cases hlt2 : i < xs.length
  · have hcl := cutsOf_len (xs.take i)
    rw [List.length_take, Nat.min_eq_left hi] at hcl
    have hrt : rightS (nth xs i).a (nth xs i).b (nth xs i).c (nth xs i).d = (nth xs i).right := rfl
    have htk : cutsOf (xs.take (i + 1)) = cutsOf (xs.take i) ++ cutS (nth xs i) := by rw [nth_take hlt2]; simp [cutsOf]
    by_cases hq : (nth xs i).right = true
    · rw [show cutS (nth xs i) = [((nth xs i).a, (nth xs i).b), ((nth xs i).c, (nth xs i).d)] from if_pos hq] at htk
      simp +contextual (disch := first | omega | decide | with_unfolding_all rfl) [e0, e3, e4, hR, hl'.c, hlt2, RF_of (up rightS2_runs), spC, hrt, hq]
      refine RM_appm (n := (cutsOf (xs.take i)).length) ho (Nat.le_refl _) s1 (by rw [elems_len cuC_len]) (by omega) rfl (by omega) rfl (by omega) (by omega) fun w2 h2 o2 l2 => ?_
      simp (disch := first | omega | decide | with_unfolding_all rfl) [e4]
      exact .mk (i + 1, w2) (hJ ▸ ⟨by simp, by simp, by simp only; omega, by simp only; rw [htk, elems_append]; exact o2⟩) (by simp only; omega)
    · have hq' : (nth xs i).right = false := by simpa using hq
      rw [show cutS (nth xs i) = [] from if_neg hq, List.append_nil] at htk
      simp +contextual (disch := first | omega | decide | with_unfolding_all rfl) [e0, e3, e4, hR, hl'.c, hlt2, RF_of (up rightS2_runs), spC, hrt, hq']
      exact .mk (i + 1, w) (hJ ▸ ⟨by simp [e3], by simp, by simp only; omega, by simp only; rw [htk]; exact ho⟩) (by simp only; omega)
  · rw [List.take_of_length_le (by omega)] at ho
    have hrow := ho.row cuC_len (by omega)
    simp +contextual (disch := first | omega | decide | with_unfolding_all rfl) [e0, e3, e4, hR, hlt2]
    rw [RF_of (sort2_runs hrow (by have := cutsOf_len xs; omega) (cutsOf_ok hx))]
    simp (disch := first | omega | decide | with_unfolding_all rfl) [RQ_rowV cuC_len cuC_ints]
end Go.Proofs.Ytlgbeekhaoiggaa
end
