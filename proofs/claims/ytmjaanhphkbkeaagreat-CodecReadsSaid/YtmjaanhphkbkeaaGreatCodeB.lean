import Derived.Test.YtmjaanhphkbkeaaGreatCodeA
import Derived.Test.YtmjaanhphkbkeaaGreatAmG
set_option linter.all false
section
namespace Go.Proofs.YtmjaanhphkbkeaaGreat
open Go.AM
set_option linter.unusedSimpArgs false
set_option linter.unusedVariables false
variable {f : Nat} {h : Heap}
structure Sp where
  (a b c d : Int)
  deriving DecidableEq
def spC (s : Sp) : List Value := [.int .i64 s.a, .int .i64 s.b, .int .i64 s.c, .int .i64 s.d]
theorem spC_len (s : Sp) : (spC s).length = 4 := rfl
def Sp.right (s : Sp) : Bool := rightS s.a s.b s.c s.d
def sortedFrom : Option Sp → List Sp → Bool
  | _, [] => true
  | p, s :: r => s.right && (match p with | none => true | some q => !lessC (s.a, s.b) (q.c, q.d)) && sortedFrom (some s) r
abbrev SRow (h : Heap) (v : Value) (xs : List Sp) : Prop := Row h 50 4 v xs.length (elems spC xs)
abbrev prev {α : Type} (xs : List α) (i : Nat) : Option α := if i = 0 then none else xs[i - 1]?
theorem elem_at {α : Type} {xs : List α} {i : Nat} (h : i < xs.length) : ∃ x, xs[i]? = some x ∧ xs.drop i = x :: xs.drop (i + 1) := ⟨xs[i], List.getElem?_eq_getElem h, List.drop_eq_getElem_cons h⟩

theorem sorted_runs {v : Value} {xs : List Sp} (hr : SRow h v xs) (hl : xs.length ≤ 100000) : Runs X ⟨f, []⟩ 45 [v] h (.bool (sortedFrom none xs)) h := by
  refine Runs_of rfl f45_is ?_
  simp only [f45r0, f45r1, f45r2, f45r3, f45r4, f45r5, f45r6, f45l7, f45r8, f45b]
  obtain ⟨a, c, rfl⟩ := hr.form
  repeat' (first
 | refine za ?_ | refine zb ?_ | refine zc ?_ | refine zd ?_ | refine ze ?_ | refine zf ?_ | refine zg ?_ | refine zh ?_ | (refine zi ?_; try refine RgD_plain rfl ?_) | refine w_drawn rfl ?_ | refine zj ?_ | refine zl ?_
 | ((first | apply zs | (apply zt; (focus rfl)) | (apply zu; (focus rfl)) | (apply zv; (focus rfl)) | apply zx | apply zy | apply zB | apply zC | apply zD | apply zE | apply zF); (focus ((conv => lhs; simp [*]); first | done | rfl)); first | apply zk | (apply zn; (focus rfl); try (focus (first | rfl | (simp [*]; done)))) | apply gv_u | apply gv_tt | apply gv_ff | apply gv_ft | apply gv_tf | (apply gv_split <;> intro hc)))
  refine w_loop (A := Nat) (fun i env h' => i ≤ xs.length ∧ env 0 = .slice a xs.length c ∧ env 5 = .slice a xs.length c ∧ env 6 = .int .i64 xs.length ∧ env 7 = .int .i64 i ∧ KeepB h h' none ∧ sortedFrom none xs = sortedFrom (prev xs i) (xs.drop i)) (fun i => xs.length - i) (a0 := 0) ⟨by omega, by simp, by simp, by simp, by simp, .refl _ _, rfl⟩ ?_
  rintro i env h' ⟨hi, e0, e5, e6, e7, hk, hs⟩
  by_cases hlt : i < xs.length
  · obtain ⟨s, hx, hd⟩ := elem_at hlt
    obtain ⟨b, o, cs, rfl, hb, hc, hga⟩ := (hr.keepB hk (.inl rfl)).all spC_len (by omega)
    have hg : grab cs (o + i * 4) 4 = some [.int .i64 s.a, .int .i64 s.b, .int .i64 s.c, .int .i64 s.d] := hga i s hx hlt
    have hk1 := hk.1
    have n1 : ¬ b = h'.size := by omega
    have w1 := wadd (i := i) (by omega)
    have nx : prev xs (i + 1) = some s := by simp [prev, hx]
    by_cases h0 : i = 0
    · have hip : ¬ 0 < i := by omega
      replace hs : sortedFrom none xs = (s.right && sortedFrom (some s) (xs.drop (i + 1))) := by rw [hs, hd]; simp [sortedFrom, prev, h0]
      clear hd hx h0 hr hga
      repeat' (first
 | refine za ?_ | refine zb ?_ | refine zc ?_ | refine zd ?_ | refine ze ?_ | refine zf ?_ | refine zg ?_ | refine zh ?_ | (refine zi ?_; try refine RgD_plain rfl ?_) | refine w_drawn rfl ?_ | refine zj ?_ | refine zl ?_
 | ((first | apply zs | (apply zt; (focus rfl)) | (apply zu; (focus rfl)) | (apply zv; (focus rfl)) | apply zw | apply zx | apply zy | apply zB | apply zC | apply zD | apply zE | apply zF); (focus ((conv => lhs; simp [cmpC_dpos, e0, e5, e6, e7, hlt, hc, n1, hg, w1, hip, *]); first | done | rfl)); first | apply zk | (apply zn; (focus rfl); try (focus (first | rfl | (simp [cmpC_dpos, e0, e5, e6, e7, hlt, hc, n1, hg, w1, hip, *]; done)))) | apply gv_u | apply gv_tt | apply gv_ff | apply gv_ft | apply gv_tf | (apply gv_split <;> intro hc) | exact rightS_runs | exact compare_runs))
      all_goals first
        | (rw [hs]; simp_all [Sp.right]; done)
        | exact ⟨i + 1, ⟨by omega, by simp [e0], by simp [e5], by simp [e6], by simp, hk.push _, by rw [nx, hs]; simp_all [Sp.right]⟩, by omega⟩
    · have hip : 0 < i := by omega
      have w2 := wsub hip (by omega)
      have hlt1 : i - 1 < xs.length := by omega
      obtain ⟨p, hx1, _⟩ := elem_at hlt1
      have hg1 : grab cs (o + (i - 1) * 4 + 2) 2 = some [.int .i64 p.c, .int .i64 p.d] := grab_sub (hga _ p hx1 hlt1) (p := 2) (m := 2) (by omega)
      replace hs : sortedFrom none xs = (s.right && !lessC (s.a, s.b) (p.c, p.d) && sortedFrom (some s) (xs.drop (i + 1))) := by rw [hs, hd]; simp [prev, h0, hx1, sortedFrom]
      clear hd hx hx1 hr hga
      repeat' (first
 | refine za ?_ | refine zb ?_ | refine zc ?_ | refine zd ?_ | refine ze ?_ | refine zf ?_ | refine zg ?_ | refine zh ?_ | (refine zi ?_; try refine RgD_plain rfl ?_) | refine w_drawn rfl ?_ | refine zj ?_ | refine zl ?_
 | ((first | apply zs | (apply zt; (focus rfl)) | (apply zu; (focus rfl)) | (apply zv; (focus rfl)) | apply zw | apply zx | apply zy | apply zB | apply zC | apply zD | apply zE | apply zF); (focus ((conv => lhs; simp [cmpC_dpos, e0, e5, e6, e7, hlt, hc, n1, hg, w1, w2, hg1, hip, hlt1, *]); first | done | rfl)); first | apply zk | (apply zn; (focus rfl); try (focus (first | rfl | (simp [cmpC_dpos, e0, e5, e6, e7, hlt, hc, n1, hg, w1, w2, hg1, hip, hlt1, *]; done)))) | apply gv_u | apply gv_tt | apply gv_ff | apply gv_ft | apply gv_tf | (apply gv_split <;> intro hc) | exact rightS_runs | exact compare_runs))
      all_goals first
        | (rw [hs]; simp_all [Sp.right]; done)
        | exact ⟨i + 1, ⟨by omega, by simp [e0], by simp [e5], by simp [e6], by simp, hk.push _, by rw [nx, hs]; simp_all [Sp.right]⟩, by omega⟩
  · repeat' (first
 | refine za ?_ | refine zb ?_ | refine zc ?_ | refine zd ?_ | refine ze ?_ | refine zf ?_ | refine zg ?_ | refine zh ?_ | (refine zi ?_; try refine RgD_plain rfl ?_) | refine w_drawn rfl ?_ | refine zj ?_ | refine zl ?_
 | ((first | apply zs | (apply zt; (focus rfl)) | (apply zu; (focus rfl)) | (apply zv; (focus rfl)) | apply zx | apply zy | apply zB | apply zC | apply zD | apply zE | apply zF); (focus ((conv => lhs; simp [e0, e5, e6, e7, hlt, *]); first | done | rfl)); first | apply zk | (apply zn; (focus rfl); try (focus (first | rfl | (simp [e0, e5, e6, e7, hlt, *]; done)))) | apply gv_u | apply gv_tt | apply gv_ff | apply gv_ft | apply gv_tf | (apply gv_split <;> intro hc)))
    rw [hs, List.drop_eq_nil_of_le (by omega)]; simp [sortedFrom]
theorem sorted2_runs {v : Value} {xs : List Sp} (hr : SRow h v xs) (hl : xs.length ≤ 100000) : Runs X ⟨f, []⟩ 53 [v] h (.bool (sortedFrom none xs)) h := by
  refine Runs_of rfl f53_is ?_
  simp only [f53r0, f53r1, f53r2, f53r3, f53r4, f53r5, f53l6, f53r7, f53b]
  obtain ⟨a, c, rfl⟩ := hr.form
  repeat' (first
 | refine za ?_ | refine zb ?_ | refine zc ?_ | refine zd ?_ | refine ze ?_ | refine zf ?_ | refine zg ?_ | refine zh ?_ | (refine zi ?_; try refine RgD_plain rfl ?_) | refine w_drawn rfl ?_ | refine zj ?_ | refine zl ?_
 | ((first | apply zs | (apply zt; (focus rfl)) | (apply zu; (focus rfl)) | (apply zv; (focus rfl)) | apply zx | apply zy | apply zB | apply zC | apply zD | apply zE | apply zF); (focus ((conv => lhs; simp [*]); first | done | rfl)); first | apply zk | (apply zn; (focus rfl); try (focus (first | rfl | (simp [*]; done)))) | apply gv_u | apply gv_tt | apply gv_ff | apply gv_ft | apply gv_tf | (apply gv_split <;> intro hc)))
  refine w_loop (A := Nat) (fun i env h' => i ≤ xs.length ∧ env 0 = .slice a xs.length c ∧ env 3 = .int .i64 i ∧ h' = h ∧ sortedFrom none xs = sortedFrom (prev xs i) (xs.drop i)) (fun i => xs.length - i) (a0 := 0) ⟨by omega, by simp, by simp, rfl, rfl⟩ ?_
  rintro i env h' ⟨hi, e0, e3, rfl, hs⟩
  by_cases hlt : i < xs.length
  · obtain ⟨s, hx, hd⟩ := elem_at hlt
    obtain ⟨b, o, cs, rfl, hb, hc, hga⟩ := hr.all spC_len (by omega)
    have hg : grab cs (o + i * 4) 4 = some [.int .i64 s.a, .int .i64 s.b, .int .i64 s.c, .int .i64 s.d] := hga i s hx hlt
    have hg2 : grab cs (o + i * 4) 2 = some [.int .i64 s.a, .int .i64 s.b] := grab_sub (hga i s hx hlt) (p := 0) (m := 2) (by omega)
    have w1 := wadd (i := i) (by omega)
    have nx : prev xs (i + 1) = some s := by simp [prev, hx]
    by_cases h0 : i = 0
    · have hip : ¬ 0 < i := by omega
      replace hs : sortedFrom none xs = (s.right && sortedFrom (some s) (xs.drop (i + 1))) := by rw [hs, hd]; simp [sortedFrom, prev, h0]
      clear hd hx h0 hr hga
      repeat' (first
 | refine za ?_ | refine zb ?_ | refine zc ?_ | refine zd ?_ | refine ze ?_ | refine zf ?_ | refine zg ?_ | refine zh ?_ | (refine zi ?_; try refine RgD_plain rfl ?_) | refine w_drawn rfl ?_ | refine zj ?_ | refine zl ?_
 | ((first | apply zs | (apply zt; (focus rfl)) | (apply zu; (focus rfl)) | (apply zv; (focus rfl)) | apply zw | apply zx | apply zy | apply zB | apply zC | apply zD | apply zE | apply zF); (focus ((conv => lhs; simp [e0, e3, hlt, hc, hg, hg2, w1, hip, *]); first | done | rfl)); first | apply zk | (apply zn; (focus rfl); try (focus (first | rfl | (simp [e0, e3, hlt, hc, hg, hg2, w1, hip, *]; done)))) | apply gv_u | apply gv_tt | apply gv_ff | apply gv_ft | apply gv_tf | (apply gv_split <;> intro hc) | exact rightS2_runs | exact less_runs))
      all_goals first
        | (rw [hs]; simp_all [Sp.right]; done)
        | exact ⟨i + 1, ⟨by omega, by simp [e0], by simp, rfl, by rw [nx, hs]; simp_all [Sp.right]⟩, by omega⟩
    · have hip : 0 < i := by omega
      have w2 := wsub hip (by omega)
      have hlt1 : i - 1 < xs.length := by omega
      obtain ⟨p, hx1, _⟩ := elem_at hlt1
      have hg1 : grab cs (o + (i - 1) * 4 + 2) 2 = some [.int .i64 p.c, .int .i64 p.d] := grab_sub (hga _ p hx1 hlt1) (p := 2) (m := 2) (by omega)
      replace hs : sortedFrom none xs = (s.right && !lessC (s.a, s.b) (p.c, p.d) && sortedFrom (some s) (xs.drop (i + 1))) := by rw [hs, hd]; simp [prev, h0, hx1, sortedFrom]
      clear hd hx hx1 hr hga
      repeat' (first
 | refine za ?_ | refine zb ?_ | refine zc ?_ | refine zd ?_ | refine ze ?_ | refine zf ?_ | refine zg ?_ | refine zh ?_ | (refine zi ?_; try refine RgD_plain rfl ?_) | refine w_drawn rfl ?_ | refine zj ?_ | refine zl ?_
 | ((first | apply zs | (apply zt; (focus rfl)) | (apply zu; (focus rfl)) | (apply zv; (focus rfl)) | apply zw | apply zx | apply zy | apply zB | apply zC | apply zD | apply zE | apply zF); (focus ((conv => lhs; simp [e0, e3, hlt, hc, hg, hg2, w1, w2, hg1, hip, hlt1, *]); first | done | rfl)); first | apply zk | (apply zn; (focus rfl); try (focus (first | rfl | (simp [e0, e3, hlt, hc, hg, hg2, w1, w2, hg1, hip, hlt1, *]; done)))) | apply gv_u | apply gv_tt | apply gv_ff | apply gv_ft | apply gv_tf | (apply gv_split <;> intro hc) | exact rightS2_runs | exact less_runs))
      all_goals first
        | (rw [hs]; simp_all [Sp.right]; done)
        | exact ⟨i + 1, ⟨by omega, by simp [e0], by simp, rfl, by rw [nx, hs]; simp_all [Sp.right]⟩, by omega⟩
  · repeat' (first
 | refine za ?_ | refine zb ?_ | refine zc ?_ | refine zd ?_ | refine ze ?_ | refine zf ?_ | refine zg ?_ | refine zh ?_ | (refine zi ?_; try refine RgD_plain rfl ?_) | refine w_drawn rfl ?_ | refine zj ?_ | refine zl ?_
 | ((first | apply zs | (apply zt; (focus rfl)) | (apply zu; (focus rfl)) | (apply zv; (focus rfl)) | apply zx | apply zy | apply zB | apply zC | apply zD | apply zE | apply zF); (focus ((conv => lhs; simp [e0, e3, hlt, *]); first | done | rfl)); first | apply zk | (apply zn; (focus rfl); try (focus (first | rfl | (simp [e0, e3, hlt, *]; done)))) | apply gv_u | apply gv_tt | apply gv_ff | apply gv_ft | apply gv_tf | (apply gv_split <;> intro hc)))
    rw [hs, List.drop_eq_nil_of_le (by omega)]; simp [sortedFrom]
def apartFrom : Option Sp → List Sp → Bool
  | _, [] => true
  | p, s :: r => (match p with | none => true | some q => !(q.c == s.a && q.d == s.b)) && apartFrom (some s) r
theorem fine2_runs {v : Value} {xs : List Sp} {st : Int} (hr : SRow h v xs) (hl : xs.length ≤ 100000) : Runs X ⟨f, []⟩ 28 [.int .i64 st, v] h (.bool ((!(st == 0) || apartFrom none xs) && sortedFrom none xs)) h := by
  refine Runs_of rfl f28_is ?_
  simp only [f28r0, f28r1, f28r2, f28r3, f28r4, f28r5, f28l6, f28r7, f28b]
  obtain ⟨a, c, rfl⟩ := hr.form
  repeat' (first
 | refine za ?_ | refine zb ?_ | refine zc ?_ | refine zd ?_ | refine ze ?_ | refine zf ?_ | refine zg ?_ | refine zh ?_ | (refine zi ?_; try refine RgD_plain rfl ?_) | refine w_drawn rfl ?_ | refine zj ?_ | refine zl ?_
 | ((first | apply zs | (apply zt; (focus rfl)) | (apply zu; (focus rfl)) | (apply zv; (focus rfl)) | apply zx | apply zy | apply zB | apply zC | apply zD | apply zE | apply zF); (focus ((conv => lhs; simp [*]); first | done | rfl)); first | apply zk | (apply zn; (focus rfl); try (focus (first | rfl | (simp [*]; done)))) | apply gv_u | apply gv_tt | apply gv_ff | apply gv_ft | apply gv_tf | (apply gv_split <;> intro hc)))
  refine w_loop (A := Nat) (fun i env h' => 0 < i ∧ (i ≤ xs.length ∨ i = 1) ∧ env 0 = .int .i64 st ∧ env 1 = .slice a xs.length c ∧ env 5 = .int .i64 i ∧ h' = h ∧ (!(st == 0) || apartFrom none xs) = (!(st == 0) || apartFrom xs[i - 1]? (xs.drop i))) (fun i => xs.length - i) (a0 := 1) ⟨by omega, by omega, by simp, by simp, by simp, rfl, by cases xs <;> simp [apartFrom]⟩ ?_
  rintro i env h' ⟨hip, hi, e0, e1, e5, rfl, hs⟩
  by_cases hlt : i < xs.length
  · obtain ⟨s, hx, hd⟩ := elem_at hlt
    obtain ⟨b, o, cs, rfl, hb, hc, hga⟩ := hr.all spC_len (by omega)
    have hg2 : grab cs (o + i * 4) 2 = some [.int .i64 s.a, .int .i64 s.b] := grab_sub (hga i s hx hlt) (p := 0) (m := 2) (by omega)
    have w1 := wadd (i := i) (by omega)
    have w2 := wsub hip (by omega)
    have hlt1 : i - 1 < xs.length := by omega
    obtain ⟨p, hx1, _⟩ := elem_at hlt1
    have hg1 : grab cs (o + (i - 1) * 4 + 2) 2 = some [.int .i64 p.c, .int .i64 p.d] := grab_sub (hga _ p hx1 hlt1) (p := 2) (m := 2) (by omega)
    replace hs : (!(st == 0) || apartFrom none xs) = (!(st == 0) || (!(p.c == s.a && p.d == s.b) && apartFrom xs[i]? (xs.drop (i + 1)))) := by rw [hs, hd, hx1, hx]; simp [apartFrom]
    clear hd hx hx1 hr hga
    repeat' (first
 | refine za ?_ | refine zb ?_ | refine zc ?_ | refine zd ?_ | refine ze ?_ | refine zf ?_ | refine zg ?_ | refine zh ?_ | (refine zi ?_; try refine RgD_plain rfl ?_) | refine w_drawn rfl ?_ | refine zj ?_ | refine zl ?_
 | ((first | apply zs | (apply zt; (focus rfl)) | (apply zu; (focus rfl)) | (apply zv; (focus rfl)) | apply zx | apply zy | apply zB | apply zC | apply zD | apply zE | apply zF); (focus ((conv => lhs; simp [e0, e1, e5, hlt, hc, hg2, w1, w2, hg1, hlt1, *]); first | done | rfl)); first | apply zk | (apply zn; (focus rfl); try (focus (first | rfl | (simp [e0, e1, e5, hlt, hc, hg2, w1, w2, hg1, hlt1, *]; done)))) | apply gv_u | apply gv_tt | apply gv_ff | apply gv_ft | apply gv_tf | (apply gv_split <;> intro hc)))
    all_goals first
      | (rw [hs]; simp_all; done)
      | exact ⟨i + 1, ⟨by omega, by omega, by simp [e0], by simp [e1], by simp, rfl, by rw [hs]; clear hs; first | (simp_all; done) | grind⟩, by omega⟩
  · repeat' (first
 | refine za ?_ | refine zb ?_ | refine zc ?_ | refine zd ?_ | refine ze ?_ | refine zf ?_ | refine zg ?_ | refine zh ?_ | (refine zi ?_; try refine RgD_plain rfl ?_) | refine w_drawn rfl ?_ | refine zj ?_ | refine zl ?_
 | ((first | apply zs | (apply zt; (focus rfl)) | (apply zu; (focus rfl)) | (apply zv; (focus rfl)) | apply zw | apply zx | apply zy | apply zB | apply zC | apply zD | apply zE | apply zF); (focus ((conv => lhs; simp [e0, e1, e5, hlt, *]); first | done | rfl)); first | apply zk | (apply zn; (focus rfl); try (focus (first | rfl | (simp [e0, e1, e5, hlt, *]; done)))) | apply gv_u | apply gv_tt | apply gv_ff | apply gv_ft | apply gv_tf | (apply gv_split <;> intro hc) | exact (sorted2_runs hr hl)))
    rw [hs, List.drop_eq_nil_of_le (by omega)]; simp [apartFrom]
end Go.Proofs.YtmjaanhphkbkeaaGreat
end

section
namespace Go.Proofs.YtmjaanhphkbkeaaGreat
open Go.AM
set_option linter.unusedSimpArgs false
set_option linter.unusedVariables false
variable {f : Nat} {h : Heap}
structure Sg where
  (s : Sp) (v : Int)
  deriving DecidableEq
def sgC (x : Sg) : List Value := [.int .i64 x.s.a, .int .i64 x.s.b, .int .i64 x.s.c, .int .i64 x.s.d, .int .i64 x.v]
theorem sgC_len (x : Sg) : (sgC x).length = 5 := rfl
abbrev GRow (h : Heap) (v : Value) (xs : List Sg) : Prop := Row h 58 5 v xs.length (elems sgC xs)

/-! lessC as an order -/
theorem lessC_trans {a b c : Int × Int} (h1 : lessC a b = true) (h2 : lessC b c = true) : lessC a c = true := by
  unfold lessC at *
  generalize canon a = x at *; generalize canon b = y at *; generalize canon c = z at *
  by_cases e1 : x.1 = y.1 <;> by_cases e2 : y.1 = z.1 <;> by_cases e3 : x.1 = z.1 <;> simp_all <;> omega
theorem sortedFrom_at : ∀ (xs : List Sp) (q : Option Sp) (i : Nat) (p s : Sp), sortedFrom q xs = true → xs[i]? = some p → xs[i + 1]? = some s → p.right = true ∧ s.right = true ∧ lessC (s.a, s.b) (p.c, p.d) = false
  | [], q, i, p, s, h, h1, h2 => by simp at h1
  | [x], q, i, p, s, h, h1, h2 => by simp at h2
  | x :: y :: r, q, 0, p, s, h, h1, h2 => by
    simp at h1 h2; subst h1 h2
    simp [sortedFrom] at h
    simp [h]
  | x :: y :: r, q, i + 1, p, s, h, h1, h2 => by
    simp only [List.getElem?_cons_succ] at h1 h2
    have h' : sortedFrom (some x) (y :: r) = true := by rw [sortedFrom.eq_def] at h; simp only [Bool.and_eq_true] at h; exact h.2
    exact sortedFrom_at (y :: r) (some x) i p s h' h1 h2
theorem touch_sorted {p s : Sp} (hp : p.right = true) (hs : s.right = true) (hl : lessC (s.a, s.b) (p.c, p.d) = false) : touchS p.a p.b p.c p.d s.a s.b s.c s.d = (p.c == s.a && p.d == s.b) := by
  unfold touchS
  have e1 : rightS p.a p.b p.c p.d = true := hp
  have e2 : rightS s.a s.b s.c s.d = true := hs
  rw [e1, e2]
  have : (s.c == p.a && s.d == p.b) = false := by
    cases e : (s.c == p.a && s.d == p.b) with
    | false => rfl
    | true =>
      simp at e
      simp [rightS] at e1 e2
      have := lessC_trans e2.2 (e.1 ▸ e.2 ▸ e1.2)
      rw [hl] at this; cases this
  rw [this]; simp

theorem iset_fine_runs {v : Value} {xs : List Sp} {st : Int} (hr : SRow h v xs) (hl : xs.length ≤ 100000) : Runs X ⟨f, []⟩ 39 [.int .i64 st, v] h (.bool ((!(st == 0) || apartFrom none xs) && sortedFrom none xs)) h := by
  refine Runs_of rfl f39_is ?_
  simp only [f39r0, f39r1, f39r2, f39r3, f39r4, f39r5, f39r6, f39r7, f39l8, f39r9, f39b]
  obtain ⟨a, c, rfl⟩ := hr.form
  cases hso : sortedFrom none xs with
  | false => repeat' (first
 | refine za ?_ | refine zb ?_ | refine zc ?_ | refine zd ?_ | refine ze ?_ | refine zf ?_ | refine zg ?_ | refine zh ?_ | (refine zi ?_; try refine RgD_plain rfl ?_) | refine w_drawn rfl ?_ | refine zj ?_ | refine zl ?_
 | ((first | apply zs | (apply zt; (focus rfl)) | (apply zu; (focus rfl)) | (apply zv; (focus rfl)) | apply zw | apply zx | apply zy | apply zB | apply zC | apply zD | apply zE | apply zF); (focus ((conv => lhs; simp [hso, *]); first | done | rfl)); first | apply zk | (apply zn; (focus rfl); try (focus (first | rfl | (simp [hso, *]; done)))) | apply gv_u | apply gv_tt | apply gv_ff | apply gv_ft | apply gv_tf | (apply gv_split <;> intro hc) | exact (sorted_runs hr hl)))
  | true =>
    repeat' (first
 | refine za ?_ | refine zb ?_ | refine zc ?_ | refine zd ?_ | refine ze ?_ | refine zf ?_ | refine zg ?_ | refine zh ?_ | (refine zi ?_; try refine RgD_plain rfl ?_) | refine w_drawn rfl ?_ | refine zj ?_ | refine zl ?_
 | ((first | apply zs | (apply zt; (focus rfl)) | (apply zu; (focus rfl)) | (apply zv; (focus rfl)) | apply zw | apply zx | apply zy | apply zB | apply zC | apply zD | apply zE | apply zF); (focus ((conv => lhs; simp [hso, *]); first | done | rfl)); first | apply zk | (apply zn; (focus rfl); try (focus (first | rfl | (simp [hso, *]; done)))) | apply gv_u | apply gv_tt | apply gv_ff | apply gv_ft | apply gv_tf | (apply gv_split <;> intro hc) | exact (sorted_runs hr hl)))
    refine w_loop (A := Nat) (fun i env h' => 0 < i ∧ (i ≤ xs.length ∨ i = 1) ∧ env 0 = .int .i64 st ∧ env 1 = .slice a xs.length c ∧ env 5 = .int .i64 i ∧ h' = h ∧ (!(st == 0) || apartFrom none xs) = (!(st == 0) || apartFrom xs[i - 1]? (xs.drop i))) (fun i => xs.length - i) (a0 := 1) ⟨by omega, by omega, by simp, by simp, by simp, rfl, by cases xs <;> simp [apartFrom]⟩ ?_
    rintro i env h' ⟨hip, hi, e0, e1, e5, rfl, hs⟩
    by_cases hlt : i < xs.length
    · obtain ⟨s, hx, hd⟩ := elem_at hlt
      obtain ⟨b, o, cs, rfl, hb, hc, hga⟩ := hr.all spC_len (by omega)
      have hg : grab cs (o + i * 4) 4 = some [.int .i64 s.a, .int .i64 s.b, .int .i64 s.c, .int .i64 s.d] := hga i s hx hlt
      have w1 := wadd (i := i) (by omega)
      have w2 := wsub hip (by omega)
      have hlt1 : i - 1 < xs.length := by omega
      obtain ⟨p, hx1, _⟩ := elem_at hlt1
      have hg1 : grab cs (o + (i - 1) * 4) 4 = some [.int .i64 p.a, .int .i64 p.b, .int .i64 p.c, .int .i64 p.d] := hga _ p hx1 hlt1
      have ht : touchS p.a p.b p.c p.d s.a s.b s.c s.d = (p.c == s.a && p.d == s.b) := by
        obtain ⟨r1, r2, r3⟩ := sortedFrom_at xs none (i - 1) p s hso hx1 (by rw [← hx]; congr 1; omega)
        exact touch_sorted r1 r2 r3
      replace hs : (!(st == 0) || apartFrom none xs) = (!(st == 0) || (!(p.c == s.a && p.d == s.b) && apartFrom xs[i]? (xs.drop (i + 1)))) := by rw [hs, hd, hx1, hx]; simp [apartFrom]
      clear hd hx hx1 hr hga
      repeat' (first
 | refine za ?_ | refine zb ?_ | refine zc ?_ | refine zd ?_ | refine ze ?_ | refine zf ?_ | refine zg ?_ | refine zh ?_ | (refine zi ?_; try refine RgD_plain rfl ?_) | refine w_drawn rfl ?_ | refine zj ?_ | refine zl ?_
 | ((first | apply zs | (apply zt; (focus rfl)) | (apply zu; (focus rfl)) | (apply zv; (focus rfl)) | apply zw | apply zx | apply zy | apply zB | apply zC | apply zD | apply zE | apply zF); (focus ((conv => lhs; simp [e0, e1, e5, hlt, hc, hg, w1, w2, hg1, hlt1, ht, *]); first | done | rfl)); first | apply zk | (apply zn; (focus rfl); try (focus (first | rfl | (simp [e0, e1, e5, hlt, hc, hg, w1, w2, hg1, hlt1, ht, *]; done)))) | apply gv_u | apply gv_tt | apply gv_ff | apply gv_ft | apply gv_tf | (apply gv_split <;> intro hc) | exact touch_runs))
      all_goals first
        | (rw [hs]; clear hs; simp_all; done)
        | exact ⟨i + 1, ⟨by omega, by omega, by simp [e0], by simp [e1], by simp, rfl, by rw [hs]; clear hs; first | (simp_all; done) | grind⟩, by omega⟩
    · repeat' (first
 | refine za ?_ | refine zb ?_ | refine zc ?_ | refine zd ?_ | refine ze ?_ | refine zf ?_ | refine zg ?_ | refine zh ?_ | (refine zi ?_; try refine RgD_plain rfl ?_) | refine w_drawn rfl ?_ | refine zj ?_ | refine zl ?_
 | ((first | apply zs | (apply zt; (focus rfl)) | (apply zu; (focus rfl)) | (apply zv; (focus rfl)) | apply zx | apply zy | apply zB | apply zC | apply zD | apply zE | apply zF); (focus ((conv => lhs; simp [e0, e1, e5, hlt, *]); first | done | rfl)); first | apply zk | (apply zn; (focus rfl); try (focus (first | rfl | (simp [e0, e1, e5, hlt, *]; done)))) | apply gv_u | apply gv_tt | apply gv_ff | apply gv_ft | apply gv_tf | (apply gv_split <;> intro hc)))
      all_goals first
        | (rw [hs, List.drop_eq_nil_of_le (by omega)]; simp [apartFrom]; done)
def right10 (st : Int) : Bool := decide (0 ≤ st) && decide (st ≤ 2)
theorem right10_runs {st : Int} : Runs X ⟨f, []⟩ 27 [.int .i64 st, .int .i64 0, .int .i64 0] h (.bool (right10 st)) h := by
  refine Runs_of rfl f27_is ?_
  simp only [f27r0, f27r1, f27b]
  repeat' (first
 | refine za ?_ | refine zb ?_ | refine zc ?_ | refine zd ?_ | refine ze ?_ | refine zf ?_ | refine zg ?_ | refine zh ?_ | (refine zi ?_; try refine RgD_plain rfl ?_) | refine w_drawn rfl ?_ | refine zj ?_ | refine zl ?_
 | ((first | apply zs | (apply zt; (focus rfl)) | (apply zu; (focus rfl)) | (apply zv; (focus rfl)) | apply zx | apply zy | apply zB | apply zC | apply zD | apply zE | apply zF); (focus ((conv => lhs; simp [*]); first | done | rfl)); first | apply zk | (apply zn; (focus rfl); try (focus (first | rfl | (simp [*]; done)))) | apply gv_u | apply gv_tt | apply gv_ff | apply gv_ft | apply gv_tf | (apply gv_split <;> intro hc)))
  all_goals (simp_all [right10] <;> omega)
theorem same_runs {v w : Value} {xs ys : List Sp} (hr : SRow h v xs) (hq : SRow h w ys) (hl : xs.length ≤ 100000) (hl2 : ys.length ≤ 100000) : Runs X ⟨f, []⟩ 13 [v, w] h (.bool (decide (xs = ys))) h := by
  refine Runs_of rfl f13_is ?_
  simp only [f13r0, f13r1, f13r2, f13r3, f13r4, f13r5, f13r6, f13r7, f13l8, f13r9, f13b]
  obtain ⟨a, c, rfl⟩ := hr.form
  obtain ⟨a2, c2, rfl⟩ := hq.form
  by_cases hne : xs.length = ys.length
  · repeat' (first
 | refine za ?_ | refine zb ?_ | refine zc ?_ | refine zd ?_ | refine ze ?_ | refine zf ?_ | refine zg ?_ | refine zh ?_ | (refine zi ?_; try refine RgD_plain rfl ?_) | refine w_drawn rfl ?_ | refine zj ?_ | refine zl ?_
 | ((first | apply zs | (apply zt; (focus rfl)) | (apply zu; (focus rfl)) | (apply zv; (focus rfl)) | apply zx | apply zy | apply zB | apply zC | apply zD | apply zE | apply zF); (focus ((conv => lhs; simp [hne, *]); first | done | rfl)); first | apply zk | (apply zn; (focus rfl); try (focus (first | rfl | (simp [hne, *]; done)))) | apply gv_u | apply gv_tt | apply gv_ff | apply gv_ft | apply gv_tf | (apply gv_split <;> intro hc)))
    refine w_loop (A := Nat) (fun i env h' => i ≤ xs.length ∧ env 0 = .slice a xs.length c ∧ env 1 = .slice a2 ys.length c2 ∧ env 5 = .int .i64 i ∧ h' = h ∧ decide (xs = ys) = decide (xs.drop i = ys.drop i)) (fun i => xs.length - i) (a0 := 0) ⟨by omega, by simp, by simp, by simp, rfl, rfl⟩ ?_
    rintro i env h' ⟨hi, e0, e1, e5, rfl, hs⟩
    by_cases hlt : i < xs.length
    · obtain ⟨s, hx, hd⟩ := elem_at hlt
      obtain ⟨b, o, cs, rfl, hb, hc, hga⟩ := hr.all spC_len (by omega)
      have hg : grab cs (o + i * 4) 4 = some [.int .i64 s.a, .int .i64 s.b, .int .i64 s.c, .int .i64 s.d] := hga i s hx hlt
      have hlt2 : i < ys.length := by omega
      obtain ⟨t, hx2, hd2⟩ := elem_at hlt2
      obtain ⟨b2, o2, cs2, rfl, hb2, hc2, hga2⟩ := hq.all spC_len (by omega)
      have hg2 : grab cs2 (o2 + i * 4) 4 = some [.int .i64 t.a, .int .i64 t.b, .int .i64 t.c, .int .i64 t.d] := hga2 i t hx2 hlt2
      have w1 := wadd (i := i) (by omega)
      replace hs : decide (xs = ys) = ((s.a == t.a && (s.b == t.b && (s.c == t.c && s.d == t.d))) && decide (xs.drop (i + 1) = ys.drop (i + 1))) := by
        rw [hs, hd, hd2, Bool.eq_iff_iff]; cases s; cases t; simp [and_assoc]
      clear hd hx hx2 hd2 hr hq hga hga2
      repeat' (first
 | refine za ?_ | refine zb ?_ | refine zc ?_ | refine zd ?_ | refine ze ?_ | refine zf ?_ | refine zg ?_ | refine zh ?_ | (refine zi ?_; try refine RgD_plain rfl ?_) | refine w_drawn rfl ?_ | refine zj ?_ | refine zl ?_
 | ((first | apply zs | (apply zt; (focus rfl)) | (apply zu; (focus rfl)) | (apply zv; (focus rfl)) | apply zx | apply zy | apply zB | apply zC | apply zD | apply zE | apply zF); (focus ((conv => lhs; simp [e0, e1, e5, hlt, hc, hg, hlt2, hc2, hg2, w1, *]); first | done | rfl)); first | apply zk | (apply zn; (focus rfl); try (focus (first | rfl | (simp [e0, e1, e5, hlt, hc, hg, hlt2, hc2, hg2, w1, *]; done)))) | apply gv_u | apply gv_tt | apply gv_ff | apply gv_ft | apply gv_tf | (apply gv_split <;> intro hc)))
      all_goals first
        | (rw [hs]; clear hs; simp_all; done)
        | exact ⟨i + 1, ⟨by omega, by simp [e0], by simp [e1], by simp, rfl, by rw [hs]; clear hs; first | (simp_all; done) | grind⟩, by omega⟩
        | (rw [hs, tup_one]; clear hs; congr 1; simp at hc ⊢; grind)
    · have hlt2 : ¬ i < ys.length := by omega
      repeat' (first
 | refine za ?_ | refine zb ?_ | refine zc ?_ | refine zd ?_ | refine ze ?_ | refine zf ?_ | refine zg ?_ | refine zh ?_ | (refine zi ?_; try refine RgD_plain rfl ?_) | refine w_drawn rfl ?_ | refine zj ?_ | refine zl ?_
 | ((first | apply zs | (apply zt; (focus rfl)) | (apply zu; (focus rfl)) | (apply zv; (focus rfl)) | apply zx | apply zy | apply zB | apply zC | apply zD | apply zE | apply zF); (focus ((conv => lhs; simp [e0, e1, e5, hlt2, *]); first | done | rfl)); first | apply zk | (apply zn; (focus rfl); try (focus (first | rfl | (simp [e0, e1, e5, hlt2, *]; done)))) | apply gv_u | apply gv_tt | apply gv_ff | apply gv_ft | apply gv_tf | (apply gv_split <;> intro hc)))
      all_goals first
        | (rw [hs, List.drop_eq_nil_of_le (by omega), List.drop_eq_nil_of_le (by omega)]; simp; done)
  · have e : decide (xs = ys) = false := by simp; intro q; exact hne (by rw [q])
    have hne' : ((xs.length : Int) != ys.length) = true := by simp; omega
    repeat' (first
 | refine za ?_ | refine zb ?_ | refine zc ?_ | refine zd ?_ | refine ze ?_ | refine zf ?_ | refine zg ?_ | refine zh ?_ | (refine zi ?_; try refine RgD_plain rfl ?_) | refine w_drawn rfl ?_ | refine zj ?_ | refine zl ?_
 | ((first | apply zs | (apply zt; (focus rfl)) | (apply zu; (focus rfl)) | (apply zv; (focus rfl)) | apply zx | apply zy | apply zB | apply zC | apply zD | apply zE | apply zF); (focus ((conv => lhs; simp [hne', e, *]); first | done | rfl)); first | apply zk | (apply zn; (focus rfl); try (focus (first | rfl | (simp [hne', e, *]; done)))) | apply gv_u | apply gv_tt | apply gv_ff | apply gv_ft | apply gv_tf | (apply gv_split <;> intro hc)))
theorem elems_ints {α : Type} {enc : α → List Value} (he : ∀ x v, v ∈ enc x → ∃ k m, v = .int k m) (xs : List α) : ∀ v ∈ elems enc xs, ∃ k m, v = .int k m := by
  intro v hv
  obtain ⟨x, _, hx⟩ := List.mem_flatMap.1 hv
  exact he x v hx
theorem spC_ints (x : Sp) (v : Value) (hv : v ∈ spC x) : ∃ k m, v = .int k m := by
  simp [spC] at hv; rcases hv with rfl | rfl | rfl | rfl <;> exact ⟨_, _, rfl⟩
theorem all_one_ints {l : List Value} (hl : ∀ v ∈ l, ∃ k m, v = .int k m) : l.all one = true := by
  rw [List.all_eq_true]; intro v hv
  obtain ⟨k, m, rfl⟩ := hl v hv; rfl
theorem spans_runs {v : Value} {xs : List Sg} (hr : GRow h v xs) (hl : xs.length ≤ 100000) (hf : f ≤ h.size) : callR X ⟨f, []⟩ 14 [v] h fun v' h' => KeepB h h' none ∧ Buf f h' 50 4 v' (elems spC (xs.map (·.s))) ∧ SRow h' v' (xs.map (·.s)) := by
  refine callR_of rfl f14_is ?_
  simp only [f14r0, f14r1, f14r2, f14r3, f14r4, f14r5, f14l6, f14r7, f14b]
  obtain ⟨a, c, rfl⟩ := hr.form
  repeat' (first
 | refine za ?_ | refine zb ?_ | refine zc ?_ | refine zd ?_ | refine ze ?_ | refine zf ?_ | refine zg ?_ | refine zh ?_ | (refine zi ?_; try refine RgD_plain rfl ?_) | refine w_drawn rfl ?_ | refine zj ?_ | refine zl ?_
 | ((first | apply zs | (apply zt; (focus rfl)) | (apply zu; (focus rfl)) | (apply zv; (focus rfl)) | apply zx | apply zy | apply zB | apply zC | apply zD | apply zE | apply zF); (focus ((conv => lhs; simp [*]); first | done | rfl)); first | apply zk | (apply zn; (focus rfl); try (focus (first | rfl | (simp [*]; done)))) | apply gv_u | apply gv_tt | apply gv_ff | apply gv_ft | apply gv_tf | (apply gv_split <;> intro hc)))
  refine w_loop (A := Nat × Value) (fun i env h' => i.1 ≤ xs.length ∧ env 0 = .slice a xs.length c ∧ env 4 = .int .i64 i.1 ∧ env 3 = i.2 ∧ Grow h.size 50 4 h h' (.slice none 0 0) i.2 (elems spC ((xs.take i.1).map (·.s)))) (fun i => xs.length - i.1) (a0 := (0, .slice none 0 0)) ⟨by simp, by simp, by simp, by simp, .refl (.inl ⟨rfl, by simp⟩) (Nat.le_refl _) rfl⟩ ?_
  rintro ⟨i, w⟩ env h' ⟨hi, e0, e4, e3, hg⟩
  simp only at hi e0 e4 e3 hg
  by_cases hlt : i < xs.length
  · obtain ⟨s, hx, hd⟩ := elem_at hlt
    obtain ⟨b, o, cs, rfl, hb, hc, hga⟩ := (hr.keepB hg.keep (.inl rfl)).all sgC_len (by omega)
    have hgr : grab cs (o + i * 5) 4 = some [.int .i64 s.s.a, .int .i64 s.s.b, .int .i64 s.s.c, .int .i64 s.s.d] := grab_sub (hga i s hx hlt) (p := 0) (m := 4) (by omega)
    have w1 := wadd (i := i) (by omega)
    repeat' (first
 | refine za ?_ | refine zb ?_ | refine zc ?_ | refine zd ?_ | refine ze ?_ | refine zf ?_ | refine zg ?_ | refine zh ?_ | (refine zi ?_; try refine RgD_plain rfl ?_) | refine w_drawn rfl ?_ | refine zj ?_ | refine zl ?_
 | ((first | apply zs | (apply zt; (focus rfl)) | (apply zu; (focus rfl)) | (apply zv; (focus rfl)) | apply zx | apply zy | apply zB | apply zC | apply zD | apply zE | apply zF); (focus ((conv => lhs; simp [e0, e4, e3, hlt, hc, hgr, w1, *]); first | done | rfl)); first | apply zk | (apply zn; (focus rfl); try (focus (first | rfl | (simp [e0, e4, e3, hlt, hc, hgr, w1, *]; done)))) | apply gv_u | apply gv_tt | apply gv_ff | apply gv_ft | apply gv_tf | (apply gv_split <;> intro hc)))
    obtain ⟨v2, h2, q1, q2⟩ := (hg.push (.cells (spC s.s) 50)).append (by_ := 32) (n := i) (m := 1) (x := .slice (some ⟨h'.size, 0, none⟩) 1 1) (l2 := spC s.s)
      (by omega) (by simp [srcCells, spC]) (by omega) (by rw [elems_len spC_len]; simp; omega) rfl (by omega) (by omega) rfl
    refine w_mem (v := v2) (h' := h2) rfl (by simpa [e3, spC] using q1) ?_
    clear hr hga hc hgr
    repeat' (first
 | refine za ?_ | refine zb ?_ | refine zc ?_ | refine zd ?_ | refine ze ?_ | refine zf ?_ | refine zg ?_ | refine zh ?_ | (refine zi ?_; try refine RgD_plain rfl ?_) | refine w_drawn rfl ?_ | refine zj ?_ | refine zl ?_
 | ((first | apply zs | (apply zt; (focus rfl)) | (apply zu; (focus rfl)) | (apply zv; (focus rfl)) | apply zx | apply zy | apply zB | apply zC | apply zD | apply zE | apply zF); (focus ((conv => lhs; simp [e0, e4, e3, hlt, w1, *]); first | done | rfl)); first | apply zk | (apply zn; (focus rfl); try (focus (first | rfl | (simp [e0, e4, e3, hlt, w1, *]; done)))) | apply gv_u | apply gv_tt | apply gv_ff | apply gv_ft | apply gv_tf | (apply gv_split <;> intro hc)))
    refine ⟨(i + 1, v2), ⟨by simp only; omega, by simp [e0], by simp, by simp, ?_⟩, by simp only; omega⟩
    have : xs.take (i + 1) = xs.take i ++ [s] := by rw [List.take_add_one, hx]; rfl
    simp only [this, List.map_append, List.map_cons, List.map_nil, elems_append, elems_cons, elems_nil, List.append_nil]
    exact q2
  · have hh : xs.take i = xs := List.take_of_length_le (by omega)
    rw [hh] at hg
    obtain ⟨v', h2, q1, q2, q3, q4⟩ := finish_buf (f := f) (n := xs.length) hg.buf (by omega) (by rw [elems_len spC_len]; simp) hf (all_below_ints (elems_ints spC_ints _))
    repeat' (first
 | refine za ?_ | refine zb ?_ | refine zc ?_ | refine zd ?_ | refine ze ?_ | refine zf ?_ | refine zg ?_ | refine zh ?_ | (refine zi ?_; try refine RgD_plain rfl ?_) | refine w_drawn rfl ?_ | refine zj ?_ | refine zl ?_
 | ((first | apply zs | (apply zt; (focus rfl)) | (apply zu; (focus rfl)) | (apply zv; (focus rfl)) | apply zx | apply zy | apply zB | apply zC | apply zD | apply zE | apply zF); (focus ((conv => lhs; simp [e0, e4, e3, hlt, *]); first | done | rfl)); first | apply zk | (apply zn; (focus rfl); try (focus (first | rfl | (simp [e0, e4, e3, hlt, *]; done)))) | apply gv_u | apply gv_tt | apply gv_ff | apply gv_ft | apply gv_tf | (apply gv_split <;> intro hc)))
    exact w_endr (vs := [w]) (by simp [e3]) q1 ⟨q2, q3, by show Row h2 50 4 v' (xs.map _).length _; rw [List.length_map]; exact q4⟩
end Go.Proofs.YtmjaanhphkbkeaaGreat
end
