import Derived.Test.YtmjaanhphkbkeaaGreatCodeH
set_option linter.all false
section
namespace Go.Proofs.YtmjaanhphkbkeaaGreat
open Go.AM
set_option linter.unusedSimpArgs false
set_option linter.unusedVariables false
variable {f : Nat} {h : Heap}
/-! ### rules -/
def rightR (st : Int) (ab : Bool) (z : Int) : Bool := (st == 0 || st == 2) && (ab || z == 0)
theorem rright_runs {st z : Int} {ab : Bool} : Runs X ⟨f, []⟩ 60 [.agg #[.int .i64 st, .bool ab, .int .i64 z]] h (.bool (rightR st ab z)) h := by
  refine Runs_of rfl f60_is ?_
  simp only [f60r0, f60r1, f60b]
  repeat' (first
 | refine za ?_ | refine zb ?_ | refine zc ?_ | refine zd ?_ | refine ze ?_ | refine zf ?_ | refine zg ?_ | refine zh ?_ | (refine zi ?_; try refine RgD_plain rfl ?_) | refine w_drawn rfl ?_ | refine zj ?_ | refine zl ?_
 | ((first | apply zs | (apply zt; (focus rfl)) | (apply zu; (focus rfl)) | (apply zv; (focus rfl)) | apply zx | apply zy | apply zB | apply zC | apply zD | apply zE | apply zF); (focus ((conv => lhs; simp [*]); first | done | rfl)); first | apply zk | (apply zn; (focus rfl); try (focus (first | rfl | (simp [*]; done)))) | (apply zo; (focus rfl)) | apply gv_u | apply gv_tt | apply gv_ff | apply gv_ft | apply gv_tf | (apply gv_split <;> intro hc)))
  all_goals first | (simp_all [rightR]; done) | grind [rightR]
theorem right14_runs {st z : Int} {ab : Bool} : Runs X ⟨f, []⟩ 25 [.agg #[.int .i64 st, .bool ab, .int .i64 z], .int .i64 0, .int .i64 0] h (.bool (rightR st ab z)) h := by
  refine Runs_of rfl f25_is ?_
  simp only [f25r0, f25r1, f25r2, f25r3, f25b]
  repeat' (first
 | refine za ?_ | refine zb ?_ | refine zc ?_ | refine zd ?_ | refine ze ?_ | refine zf ?_ | refine zg ?_ | refine zh ?_ | (refine zi ?_; try refine RgD_plain rfl ?_) | refine w_drawn rfl ?_ | refine zj ?_ | refine zl ?_
 | ((first | apply zs | (apply zt; (focus rfl)) | (apply zu; (focus rfl)) | (apply zv; (focus rfl)) | apply zx | apply zy | apply zB | apply zC | apply zD | apply zE | apply zF); (focus ((conv => lhs; simp [*]); first | done | rfl)); first | apply zk | (apply zn; (focus rfl); try (focus (first | rfl | (simp [*]; done)))) | (apply zo; (focus rfl)) | apply gv_u | apply gv_tt | apply gv_ff | apply gv_ft | apply gv_tf | (apply gv_split <;> intro hc)))
  all_goals first | (simp_all [rightR]; done) | grind [rightR]
theorem arena_runs : callR X ⟨f, []⟩ 81 [.int .i64 0] h fun v h' => ∃ p, v = .tuple #[.pointer p, .int .i64 0] ∧ KeepB h h' none := by
  refine callR_of rfl f81_is ?_
  simp only [f81r0, f81r1, f81r2, f81r3, f81b]
  repeat (first
 | refine za ?_ | refine zb ?_ | refine zc ?_ | refine zd ?_ | refine ze ?_ | refine zf ?_ | refine zg ?_ | refine zh ?_ | (refine zi ?_; try refine RgD_plain rfl ?_) | refine w_drawn rfl ?_ | refine zj ?_ | refine zl ?_
 | ((first | apply zs | (apply zt; (focus rfl)) | (apply zu; (focus rfl)) | (apply zv; (focus rfl)) | apply zx | apply zy | apply zB | apply zC | apply zD | apply zE | apply zF); (focus ((conv => lhs; simp); first | done | rfl)); first | apply zk | (apply zn; (focus rfl); try (focus (first | rfl | (simp; done)))) | (apply zo; (focus rfl)) | apply gv_u | apply gv_tt | apply gv_ff | apply gv_ft | apply gv_tf))
  exact ⟨_, rfl, (KeepB.refl _ _).push _⟩
theorem rbnew_runs : callR X ⟨f, []⟩ 77 [.int .i64 0] h fun v h' => ∃ p, v = .tuple #[.pointer p, .int .i64 0] ∧ KeepB h h' none := by
  refine callR_of rfl f77_is ?_
  simp only [f77r0, f77r1, f77r2, f77r3, f77r4, f77r5, f77r6, f77b]
  repeat (first
 | refine za ?_ | refine zb ?_ | refine zc ?_ | refine zd ?_ | refine ze ?_ | refine zf ?_ | refine zg ?_ | refine zh ?_ | (refine zi ?_; try refine RgD_plain rfl ?_) | refine w_drawn rfl ?_ | refine zj ?_ | refine zl ?_
 | ((first | apply zs | (apply zt; (focus rfl)) | (apply zu; (focus rfl)) | (apply zv; (focus rfl)) | apply zx | apply zy | apply zB | apply zC | apply zD | apply zE | apply zF); (focus ((conv => lhs; simp); first | done | rfl)); first | apply zk | (apply zn; (focus rfl); try (focus (first | rfl | (simp; done)))) | (apply zo; (focus rfl)) | apply gv_u | apply gv_tt | apply gv_ff | apply gv_ft | apply gv_tf))
  (apply zW; (focus ((conv => lhs; simp); first | done | rfl)); (focus exact arena_runs)); intro v' h' q
  obtain ⟨p, rfl, k⟩ := q
  repeat (first
 | refine za ?_ | refine zb ?_ | refine zc ?_ | refine zd ?_ | refine ze ?_ | refine zf ?_ | refine zg ?_ | refine zh ?_ | (refine zi ?_; try refine RgD_plain rfl ?_) | refine w_drawn rfl ?_ | refine zj ?_ | refine zl ?_
 | ((first | apply zs | (apply zt; (focus rfl)) | (apply zu; (focus rfl)) | (apply zv; (focus rfl)) | apply zx | apply zy | apply zB | apply zC | apply zD | apply zE | apply zF); (focus ((conv => lhs; simp); first | done | rfl)); first | apply zk | (apply zn; (focus rfl); try (focus (first | rfl | (simp; done)))) | (apply zo; (focus rfl)) | apply gv_u | apply gv_tt | apply gv_ff | apply gv_ft | apply gv_tf))
  exact ⟨_, rfl, k.push _⟩
theorem made_runs : callR X ⟨f, []⟩ 72 [.int .i64 0, .int .i64 0] h fun v h' => ∃ t p, v = .tuple #[.iface t (.pointer p), .int .i64 0] ∧ KeepB h h' none := by
  refine callR_of rfl f72_is ?_
  simp only [f72r0, f72r1, f72r2, f72r3, f72r4, f72r5, f72b]
  repeat (first
 | refine za ?_ | refine zb ?_ | refine zc ?_ | refine zd ?_ | refine ze ?_ | refine zf ?_ | refine zg ?_ | refine zh ?_ | (refine zi ?_; try refine RgD_plain rfl ?_) | refine w_drawn rfl ?_ | refine zj ?_ | refine zl ?_
 | ((first | apply zs | (apply zt; (focus rfl)) | (apply zu; (focus rfl)) | (apply zv; (focus rfl)) | apply zx | apply zy | apply zB | apply zC | apply zD | apply zE | apply zF); (focus ((conv => lhs; simp); first | done | rfl)); first | apply zk | (apply zn; (focus rfl); try (focus (first | rfl | (simp; done)))) | (apply zo; (focus rfl)) | apply gv_u | apply gv_tt | apply gv_ff | apply gv_ft | apply gv_tf))
  (apply zW; (focus ((conv => lhs; simp); first | done | rfl)); (focus exact rbnew_runs)); intro v' h' q
  obtain ⟨p, rfl, k⟩ := q
  repeat (first
 | refine za ?_ | refine zb ?_ | refine zc ?_ | refine zd ?_ | refine ze ?_ | refine zf ?_ | refine zg ?_ | refine zh ?_ | (refine zi ?_; try refine RgD_plain rfl ?_) | refine w_drawn rfl ?_ | refine zj ?_ | refine zl ?_
 | ((first | apply zs | (apply zt; (focus rfl)) | (apply zu; (focus rfl)) | (apply zv; (focus rfl)) | apply zx | apply zy | apply zB | apply zC | apply zD | apply zE | apply zF); (focus ((conv => lhs; simp); first | done | rfl)); first | apply zk | (apply zn; (focus rfl); try (focus (first | rfl | (simp; done)))) | (apply zo; (focus rfl)) | apply gv_u | apply gv_tt | apply gv_ff | apply gv_ft | apply gv_tf))
  exact ⟨_, _, rfl, k⟩
theorem one_iface {t : TypeId} {v : Value} : one (.iface t v) = true := rfl
theorem cells_iface {t : TypeId} {v : Value} : (Value.iface t v).cells = #[.iface t v] := rfl
theorem onew_runs : callR X ⟨f, []⟩ 59 [.int .i64 0, .int .i64 0] h fun v h' => ∃ p, v = .tuple #[.pointer p, .int .i64 0] ∧ KeepB h h' none := by
  refine callR_of rfl f59_is ?_
  simp only [f59r0, f59r1, f59r2, f59r3, f59r4, f59b]
  repeat (first
 | refine za ?_ | refine zb ?_ | refine zc ?_ | refine zd ?_ | refine ze ?_ | refine zf ?_ | refine zg ?_ | refine zh ?_ | (refine zi ?_; try refine RgD_plain rfl ?_) | refine w_drawn rfl ?_ | refine zj ?_ | refine zl ?_
 | ((first | apply zs | (apply zt; (focus rfl)) | (apply zu; (focus rfl)) | (apply zv; (focus rfl)) | apply zx | apply zy | apply zB | apply zC | apply zD | apply zE | apply zF); (focus ((conv => lhs; simp); first | done | rfl)); first | apply zk | (apply zn; (focus rfl); try (focus (first | rfl | (simp; done)))) | (apply zo; (focus rfl)) | apply gv_u | apply gv_tt | apply gv_ff | apply gv_ft | apply gv_tf))
  (apply zW; (focus ((conv => lhs; simp); first | done | rfl)); (focus exact made_runs)); intro v' h' q
  obtain ⟨t, p, rfl, k⟩ := q
  repeat (first
 | refine za ?_ | refine zb ?_ | refine zc ?_ | refine zd ?_ | refine ze ?_ | refine zf ?_ | refine zg ?_ | refine zh ?_ | (refine zi ?_; try refine RgD_plain rfl ?_) | refine w_drawn rfl ?_ | refine zj ?_ | refine zl ?_
 | ((first | apply zs | (apply zt; (focus rfl)) | (apply zu; (focus rfl)) | (apply zv; (focus rfl)) | apply zx | apply zy | apply zB | apply zC | apply zD | apply zE | apply zF); (focus ((conv => lhs; simp [one_iface, cells_iface]); first | done | rfl)); first | apply zk | (apply zn; (focus rfl); try (focus (first | rfl | (simp [one_iface, cells_iface]; done)))) | (apply zo; (focus rfl)) | apply gv_u | apply gv_tt | apply gv_ff | apply gv_ft | apply gv_tf))
  exact ⟨_, rfl, k.push _⟩
theorem inew_runs {st z : Int} {ab : Bool} : callR X ⟨f, []⟩ 44 [.agg #[.int .i64 st, .bool ab, .int .i64 z], .int .i64 0, .int .i64 0] h fun v h' => ∃ p, v = .tuple #[.pointer p, .int .i64 (if rightR st ab z then 0 else 1)] := by
  refine callR_of rfl f44_is ?_
  simp only [f44r0, f44r1, f44r2, f44r3, f44r4, f44b]
  repeat (first
 | refine za ?_ | refine zb ?_ | refine zc ?_ | refine zd ?_ | refine ze ?_ | refine zf ?_ | refine zg ?_ | refine zh ?_ | (refine zi ?_; try refine RgD_plain rfl ?_) | refine w_drawn rfl ?_ | refine zj ?_ | refine zl ?_
 | ((first | apply zs | (apply zt; (focus rfl)) | (apply zu; (focus rfl)) | (apply zv; (focus rfl)) | apply zx | apply zy | apply zB | apply zC | apply zD | apply zE | apply zF); (focus ((conv => lhs; simp); first | done | rfl)); first | apply zk | (apply zn; (focus rfl); try (focus (first | rfl | (simp; done)))) | (apply zo; (focus rfl)) | apply gv_u | apply gv_tt | apply gv_ff | apply gv_ft | apply gv_tf))
  (apply zW; (focus ((conv => lhs; simp); first | done | rfl)); (focus exact onew_runs)); intro v' h' q
  obtain ⟨p, rfl, k⟩ := q
  have hc : h'.cellsAt h.size = some [.int .i64 st, .bool ab, .int .i64 z] := by rw [k.cells (by simp) (by simp)]; simp
  cases hr : rightR st ab z with
  | true =>
    repeat (first
 | refine za ?_ | refine zb ?_ | refine zc ?_ | refine zd ?_ | refine ze ?_ | refine zf ?_ | refine zg ?_ | refine zh ?_ | (refine zi ?_; try refine RgD_plain rfl ?_) | refine w_drawn rfl ?_ | refine zj ?_ | refine zl ?_
 | ((first | apply zs | (apply zt; (focus rfl)) | (apply zu; (focus rfl)) | (apply zv; (focus rfl)) | apply zw | apply zx | apply zy | apply zB | apply zC | apply zD | apply zE | apply zF); (focus ((conv => lhs; simp [hc, hr]); first | done | rfl)); first | apply zk | (apply zn; (focus rfl); try (focus (first | rfl | (simp [hc, hr]; done)))) | (apply zo; (focus rfl)) | apply gv_u | apply gv_tt | apply gv_ff | apply gv_ft | apply gv_tf | exact rright_runs))
    exact ⟨_, rfl⟩
  | false =>
    repeat (first
 | refine za ?_ | refine zb ?_ | refine zc ?_ | refine zd ?_ | refine ze ?_ | refine zf ?_ | refine zg ?_ | refine zh ?_ | (refine zi ?_; try refine RgD_plain rfl ?_) | refine w_drawn rfl ?_ | refine zj ?_ | refine zl ?_
 | ((first | apply zs | (apply zt; (focus rfl)) | (apply zu; (focus rfl)) | (apply zv; (focus rfl)) | apply zw | apply zx | apply zy | apply zB | apply zC | apply zD | apply zE | apply zF); (focus ((conv => lhs; simp [hc, hr]); first | done | rfl)); first | apply zk | (apply zn; (focus rfl); try (focus (first | rfl | (simp [hc, hr]; done)))) | (apply zo; (focus rfl)) | apply gv_u | apply gv_tt | apply gv_ff | apply gv_ft | apply gv_tf | exact rright_runs))
    exact ⟨_, rfl⟩
theorem cright_runs {st z : Int} {ab : Bool} : Runs X ⟨f, []⟩ 19 [.agg #[.int .i64 st, .bool ab, .int .i64 z]] h (.bool (rightR st ab z)) h := by
  refine Runs_of rfl f19_is ?_
  simp only [f19r0, f19r1, f19r2, f19b]
  repeat (first
 | refine za ?_ | refine zb ?_ | refine zc ?_ | refine zd ?_ | refine ze ?_ | refine zf ?_ | refine zg ?_ | refine zh ?_ | (refine zi ?_; try refine RgD_plain rfl ?_) | refine w_drawn rfl ?_ | refine zj ?_ | refine zl ?_
 | ((first | apply zs | (apply zt; (focus rfl)) | (apply zu; (focus rfl)) | (apply zv; (focus rfl)) | apply zx | apply zy | apply zB | apply zC | apply zD | apply zE | apply zF); (focus ((conv => lhs; simp); first | done | rfl)); first | apply zk | (apply zn; (focus rfl); try (focus (first | rfl | (simp; done)))) | (apply zo; (focus rfl)) | apply gv_u | apply gv_tt | apply gv_ff | apply gv_ft | apply gv_tf))
  (apply zW; (focus ((conv => lhs; simp); first | done | rfl)); (focus exact inew_runs)); intro v' h' q
  obtain ⟨p, rfl⟩ := q
  cases hr : rightR st ab z with
  | true => repeat (first
 | refine za ?_ | refine zb ?_ | refine zc ?_ | refine zd ?_ | refine ze ?_ | refine zf ?_ | refine zg ?_ | refine zh ?_ | (refine zi ?_; try refine RgD_plain rfl ?_) | refine w_drawn rfl ?_ | refine zj ?_ | refine zl ?_
 | ((first | apply zs | (apply zt; (focus rfl)) | (apply zu; (focus rfl)) | (apply zv; (focus rfl)) | apply zx | apply zy | apply zB | apply zC | apply zD | apply zE | apply zF); (focus ((conv => lhs; simp); first | done | rfl)); first | apply zk | (apply zn; (focus rfl); try (focus (first | rfl | (simp; done)))) | (apply zo; (focus rfl)) | apply gv_u | apply gv_tt | apply gv_ff | apply gv_ft | apply gv_tf))
  | false => repeat (first
 | refine za ?_ | refine zb ?_ | refine zc ?_ | refine zd ?_ | refine ze ?_ | refine zf ?_ | refine zg ?_ | refine zh ?_ | (refine zi ?_; try refine RgD_plain rfl ?_) | refine w_drawn rfl ?_ | refine zj ?_ | refine zl ?_
 | ((first | apply zs | (apply zt; (focus rfl)) | (apply zu; (focus rfl)) | (apply zv; (focus rfl)) | apply zx | apply zy | apply zB | apply zC | apply zD | apply zE | apply zF); (focus ((conv => lhs; simp); first | done | rfl)); first | apply zk | (apply zn; (focus rfl); try (focus (first | rfl | (simp; done)))) | (apply zo; (focus rfl)) | apply gv_u | apply gv_tt | apply gv_ff | apply gv_ft | apply gv_tf))
/-! ### rows of segments -/
theorem sg_ne {s t : Sg} (h : ¬ s = t) : (!s.s.a == t.s.a || (!s.s.b == t.s.b || (!s.s.c == t.s.c || (!s.s.d == t.s.d || !s.v == t.v)))) = true := by
  rcases s with ⟨⟨a, b, c, d⟩, v⟩; rcases t with ⟨⟨a', b', c', d'⟩, v'⟩
  simp at h ⊢; grind
theorem sgC_ints (x : Sg) (v : Value) (hv : v ∈ sgC x) : ∃ k m, v = .int k m := by
  simp [sgC] at hv; rcases hv with rfl | rfl | rfl | rfl | rfl <;> exact ⟨_, _, rfl⟩
theorem same14_runs {v w : Value} {xs ys : List Sg} (hr : GRow h v xs) (hq : GRow h w ys) (hl : xs.length ≤ 100000) (hl2 : ys.length ≤ 100000) : Runs X ⟨f, []⟩ 10 [v, w] h (.bool (decide (xs = ys))) h := by
  refine Runs_of rfl f10_is ?_
  simp only [f10r0, f10r1, f10r2, f10r3, f10r4, f10r5, f10r6, f10r7, f10l8, f10r9, f10b]
  obtain ⟨a, c, rfl⟩ := hr.form
  obtain ⟨a2, c2, rfl⟩ := hq.form
  by_cases hne : xs.length = ys.length
  · repeat (first
 | refine za ?_ | refine zb ?_ | refine zc ?_ | refine zd ?_ | refine ze ?_ | refine zf ?_ | refine zg ?_ | refine zh ?_ | (refine zi ?_; try refine RgD_plain rfl ?_) | refine w_drawn rfl ?_ | refine zj ?_ | refine zl ?_
 | ((first | apply zs | (apply zt; (focus rfl)) | (apply zu; (focus rfl)) | (apply zv; (focus rfl)) | apply zx | apply zy | apply zB | apply zC | apply zD | apply zE | apply zF); (focus ((conv => lhs; simp [hne]); first | done | rfl)); first | apply zk | (apply zn; (focus rfl); try (focus (first | rfl | (simp [hne]; done)))) | (apply zo; (focus rfl)) | apply gv_u | apply gv_tt | apply gv_ff | apply gv_ft | apply gv_tf))
    refine w_loop (A := Nat) (fun i env h' => i ≤ ys.length ∧ env 0 = .slice a xs.length c ∧ env 1 = .slice a2 ys.length c2 ∧ env 5 = .int .i64 i ∧ h' = h ∧ decide (xs = ys) = decide (xs.drop i = ys.drop i)) (fun i => ys.length - i) (a0 := 0) ⟨by omega, by simp, by simp, by simp, rfl, rfl⟩ ?_
    rintro i env h' ⟨hi, e0, e1, e5, rfl, hs⟩
    by_cases hlt2 : i < ys.length
    · have hlt : i < xs.length := by omega
      obtain ⟨s, hx, hd⟩ := elem_at hlt
      obtain ⟨b, o, cs, rfl, hb, hc, hga⟩ := hr.all sgC_len (by omega)
      have hg : grab cs (o + i * 5) 5 = some [.int .i64 s.s.a, .int .i64 s.s.b, .int .i64 s.s.c, .int .i64 s.s.d, .int .i64 s.v] := hga i s hx hlt
      obtain ⟨t, hx2, hd2⟩ := elem_at hlt2
      obtain ⟨b2, o2, cs2, rfl, hb2, hc2, hga2⟩ := hq.all sgC_len (by omega)
      have hg2 : grab cs2 (o2 + i * 5) 5 = some [.int .i64 t.s.a, .int .i64 t.s.b, .int .i64 t.s.c, .int .i64 t.s.d, .int .i64 t.v] := hga2 i t hx2 hlt2
      have w1 := wadd (i := i) (by omega)
      by_cases hst : s = t
      · replace hs : decide (xs = ys) = decide (xs.drop (i + 1) = ys.drop (i + 1)) := by
          rw [hs, hd, hd2, hst]; simp
        subst hst
        clear hd hx hx2 hd2 hr hq hga hga2
        repeat (first
 | refine za ?_ | refine zb ?_ | refine zc ?_ | refine zd ?_ | refine ze ?_ | refine zf ?_ | refine zg ?_ | refine zh ?_ | (refine zi ?_; try refine RgD_plain rfl ?_) | refine w_drawn rfl ?_ | refine zj ?_ | refine zl ?_
 | ((first | apply zs | (apply zt; (focus rfl)) | (apply zu; (focus rfl)) | (apply zv; (focus rfl)) | apply zx | apply zy | apply zB | apply zC | apply zD | apply zE | apply zF); (focus ((conv => lhs; simp [e0, e1, e5, hlt, hc, hg, hlt2, hc2, hg2, w1]); first | done | rfl)); first | apply zk | (apply zn; (focus rfl); try (focus (first | rfl | (simp [e0, e1, e5, hlt, hc, hg, hlt2, hc2, hg2, w1]; done)))) | (apply zo; (focus rfl)) | apply gv_u | apply gv_tt | apply gv_ff | apply gv_ft | apply gv_tf))
        exact ⟨i + 1, ⟨by omega, by simp [e0], by simp [e1], by simp, rfl, hs⟩, by omega⟩
      · replace hs : decide (xs = ys) = false := by
          rw [hs, hd, hd2]; simp [hst]
        have hst' := sg_ne hst
        rw [hs]
        clear hd hx hx2 hd2 hr hq hga hga2 hst
        repeat (first
 | refine za ?_ | refine zb ?_ | refine zc ?_ | refine zd ?_ | refine ze ?_ | refine zf ?_ | refine zg ?_ | refine zh ?_ | (refine zi ?_; try refine RgD_plain rfl ?_) | refine w_drawn rfl ?_ | refine zj ?_ | refine zl ?_
 | ((first | apply zs | (apply zt; (focus rfl)) | (apply zu; (focus rfl)) | (apply zv; (focus rfl)) | apply zx | apply zy | apply zB | apply zC | apply zD | apply zE | apply zF); (focus ((conv => lhs; simp [e0, e1, e5, hlt, hc, hg, hlt2, hc2, hg2, w1, hst']); first | done | rfl)); first | apply zk | (apply zn; (focus rfl); try (focus (first | rfl | (simp [e0, e1, e5, hlt, hc, hg, hlt2, hc2, hg2, w1, hst']; done)))) | (apply zo; (focus rfl)) | apply gv_u | apply gv_tt | apply gv_ff | apply gv_ft | apply gv_tf))
    · have e : decide (xs = ys) = true := by rw [hs, List.drop_eq_nil_of_le (by omega), List.drop_eq_nil_of_le (by omega)]; simp
      have hlt : ¬ i < xs.length := by omega
      rw [e]
      repeat (first
 | refine za ?_ | refine zb ?_ | refine zc ?_ | refine zd ?_ | refine ze ?_ | refine zf ?_ | refine zg ?_ | refine zh ?_ | (refine zi ?_; try refine RgD_plain rfl ?_) | refine w_drawn rfl ?_ | refine zj ?_ | refine zl ?_
 | ((first | apply zs | (apply zt; (focus rfl)) | (apply zu; (focus rfl)) | (apply zv; (focus rfl)) | apply zx | apply zy | apply zB | apply zC | apply zD | apply zE | apply zF); (focus ((conv => lhs; simp [e0, e1, e5, hlt2, hlt]); first | done | rfl)); first | apply zk | (apply zn; (focus rfl); try (focus (first | rfl | (simp [e0, e1, e5, hlt2, hlt]; done)))) | (apply zo; (focus rfl)) | apply gv_u | apply gv_tt | apply gv_ff | apply gv_ft | apply gv_tf))
  · have e : decide (xs = ys) = false := by simp; intro q; exact hne (by rw [q])
    have hne' : ((xs.length : Int) != ys.length) = true := by simp; omega
    rw [e]
    repeat (first
 | refine za ?_ | refine zb ?_ | refine zc ?_ | refine zd ?_ | refine ze ?_ | refine zf ?_ | refine zg ?_ | refine zh ?_ | (refine zi ?_; try refine RgD_plain rfl ?_) | refine w_drawn rfl ?_ | refine zj ?_ | refine zl ?_
 | ((first | apply zs | (apply zt; (focus rfl)) | (apply zu; (focus rfl)) | (apply zv; (focus rfl)) | apply zx | apply zy | apply zB | apply zC | apply zD | apply zE | apply zF); (focus ((conv => lhs; simp [hne']); first | done | rfl)); first | apply zk | (apply zn; (focus rfl); try (focus (first | rfl | (simp [hne']; done)))) | (apply zo; (focus rfl)) | apply gv_u | apply gv_tt | apply gv_ff | apply gv_ft | apply gv_tf))
theorem equal47_runs {v w : Value} {xs ys : List Sg} (hr : GRow h v xs) (hq : GRow h w ys) (hl : xs.length ≤ 100000) (hl2 : ys.length ≤ 100000) : Runs X ⟨f, []⟩ 47 [v, w] h (.bool (decide (xs = ys))) h := by
  refine Runs_of rfl f47_is ?_
  simp only [f47r0, f47r1, f47r2, f47r3, f47r4, f47r5, f47r6, f47r7, f47r8, f47l9, f47r10, f47b]
  obtain ⟨a, c, rfl⟩ := hr.form
  obtain ⟨a2, c2, rfl⟩ := hq.form
  by_cases hne : xs.length = ys.length
  · repeat (first
 | refine za ?_ | refine zb ?_ | refine zc ?_ | refine zd ?_ | refine ze ?_ | refine zf ?_ | refine zg ?_ | refine zh ?_ | (refine zi ?_; try refine RgD_plain rfl ?_) | refine w_drawn rfl ?_ | refine zj ?_ | refine zl ?_
 | ((first | apply zs | (apply zt; (focus rfl)) | (apply zu; (focus rfl)) | (apply zv; (focus rfl)) | apply zx | apply zy | apply zB | apply zC | apply zD | apply zE | apply zF); (focus ((conv => lhs; simp [hne]); first | done | rfl)); first | apply zk | (apply zn; (focus rfl); try (focus (first | rfl | (simp [hne]; done)))) | (apply zo; (focus rfl)) | apply gv_u | apply gv_tt | apply gv_ff | apply gv_ft | apply gv_tf))
    refine w_loop (A := Nat) (fun i env h' => i ≤ ys.length ∧ env 0 = .slice a xs.length c ∧ env 1 = .slice a2 ys.length c2 ∧ env 12 = .int .i64 ys.length ∧ env 13 = .int .i64 i ∧ h' = h ∧ decide (xs = ys) = decide (xs.drop i = ys.drop i)) (fun i => ys.length - i) (a0 := 0) ⟨by omega, by simp, by simp, by simp, by simp, rfl, rfl⟩ ?_
    rintro i env h' ⟨hi, e0, e1, e12, e5, rfl, hs⟩
    by_cases hlt2 : i < ys.length
    · have hlt : i < xs.length := by omega
      obtain ⟨s, hx, hd⟩ := elem_at hlt
      obtain ⟨b, o, cs, rfl, hb, hc, hga⟩ := hr.all sgC_len (by omega)
      have hg : grab cs (o + i * 5) 5 = some [.int .i64 s.s.a, .int .i64 s.s.b, .int .i64 s.s.c, .int .i64 s.s.d, .int .i64 s.v] := hga i s hx hlt
      obtain ⟨t, hx2, hd2⟩ := elem_at hlt2
      obtain ⟨b2, o2, cs2, rfl, hb2, hc2, hga2⟩ := hq.all sgC_len (by omega)
      have hg2 : grab cs2 (o2 + i * 5) 5 = some [.int .i64 t.s.a, .int .i64 t.s.b, .int .i64 t.s.c, .int .i64 t.s.d, .int .i64 t.v] := hga2 i t hx2 hlt2
      have w1 := wadd (i := i) (by omega)
      by_cases hst : s = t
      · replace hs : decide (xs = ys) = decide (xs.drop (i + 1) = ys.drop (i + 1)) := by
          rw [hs, hd, hd2, hst]; simp
        subst hst
        clear hd hx hx2 hd2 hr hq hga hga2
        repeat (first
 | refine za ?_ | refine zb ?_ | refine zc ?_ | refine zd ?_ | refine ze ?_ | refine zf ?_ | refine zg ?_ | refine zh ?_ | (refine zi ?_; try refine RgD_plain rfl ?_) | refine w_drawn rfl ?_ | refine zj ?_ | refine zl ?_
 | ((first | apply zs | (apply zt; (focus rfl)) | (apply zu; (focus rfl)) | (apply zv; (focus rfl)) | apply zx | apply zy | apply zB | apply zC | apply zD | apply zE | apply zF); (focus ((conv => lhs; simp [e0, e1, e12, e5, hlt, hc, hg, hlt2, hc2, hg2, w1]); first | done | rfl)); first | apply zk | (apply zn; (focus rfl); try (focus (first | rfl | (simp [e0, e1, e12, e5, hlt, hc, hg, hlt2, hc2, hg2, w1]; done)))) | (apply zo; (focus rfl)) | apply gv_u | apply gv_tt | apply gv_ff | apply gv_ft | apply gv_tf))
        exact ⟨i + 1, ⟨by omega, by simp [e0], by simp [e1], by simp [e12], by simp, rfl, hs⟩, by omega⟩
      · replace hs : decide (xs = ys) = false := by
          rw [hs, hd, hd2]; simp [hst]
        have hst' := sg_ne hst
        rw [hs]
        clear hd hx hx2 hd2 hr hq hga hga2 hst
        repeat (first
 | refine za ?_ | refine zb ?_ | refine zc ?_ | refine zd ?_ | refine ze ?_ | refine zf ?_ | refine zg ?_ | refine zh ?_ | (refine zi ?_; try refine RgD_plain rfl ?_) | refine w_drawn rfl ?_ | refine zj ?_ | refine zl ?_
 | ((first | apply zs | (apply zt; (focus rfl)) | (apply zu; (focus rfl)) | (apply zv; (focus rfl)) | apply zx | apply zy | apply zB | apply zC | apply zD | apply zE | apply zF); (focus ((conv => lhs; simp [e0, e1, e12, e5, hlt, hc, hg, hlt2, hc2, hg2, w1, hst']); first | done | rfl)); first | apply zk | (apply zn; (focus rfl); try (focus (first | rfl | (simp [e0, e1, e12, e5, hlt, hc, hg, hlt2, hc2, hg2, w1, hst']; done)))) | (apply zo; (focus rfl)) | apply gv_u | apply gv_tt | apply gv_ff | apply gv_ft | apply gv_tf))
    · have e : decide (xs = ys) = true := by rw [hs, List.drop_eq_nil_of_le (by omega), List.drop_eq_nil_of_le (by omega)]; simp
      have hlt : ¬ i < xs.length := by omega
      rw [e]
      repeat (first
 | refine za ?_ | refine zb ?_ | refine zc ?_ | refine zd ?_ | refine ze ?_ | refine zf ?_ | refine zg ?_ | refine zh ?_ | (refine zi ?_; try refine RgD_plain rfl ?_) | refine w_drawn rfl ?_ | refine zj ?_ | refine zl ?_
 | ((first | apply zs | (apply zt; (focus rfl)) | (apply zu; (focus rfl)) | (apply zv; (focus rfl)) | apply zx | apply zy | apply zB | apply zC | apply zD | apply zE | apply zF); (focus ((conv => lhs; simp [e0, e1, e12, e5, hlt2, hlt]); first | done | rfl)); first | apply zk | (apply zn; (focus rfl); try (focus (first | rfl | (simp [e0, e1, e12, e5, hlt2, hlt]; done)))) | (apply zo; (focus rfl)) | apply gv_u | apply gv_tt | apply gv_ff | apply gv_ft | apply gv_tf))
  · have e : decide (xs = ys) = false := by simp; intro q; exact hne (by rw [q])
    have hne' : ((xs.length : Int) != ys.length) = true := by simp; omega
    rw [e]
    repeat (first
 | refine za ?_ | refine zb ?_ | refine zc ?_ | refine zd ?_ | refine ze ?_ | refine zf ?_ | refine zg ?_ | refine zh ?_ | (refine zi ?_; try refine RgD_plain rfl ?_) | refine w_drawn rfl ?_ | refine zj ?_ | refine zl ?_
 | ((first | apply zs | (apply zt; (focus rfl)) | (apply zu; (focus rfl)) | (apply zv; (focus rfl)) | apply zx | apply zy | apply zB | apply zC | apply zD | apply zE | apply zF); (focus ((conv => lhs; simp [hne']); first | done | rfl)); first | apply zk | (apply zn; (focus rfl); try (focus (first | rfl | (simp [hne']; done)))) | (apply zo; (focus rfl)) | apply gv_u | apply gv_tt | apply gv_ff | apply gv_ft | apply gv_tf))
theorem ispans_runs {v : Value} {xs : List Sg} (hr : GRow h v xs) (hl : xs.length ≤ 100000) (hf : f ≤ h.size) : callR X ⟨f, []⟩ 46 [v] h fun v' h' => KeepB h h' none ∧ Buf f h' 50 4 v' (elems spC (xs.map (·.s))) ∧ SRow h' v' (xs.map (·.s)) := by
  refine callR_of rfl f46_is ?_
  simp only [f46r0, f46r1, f46r2, f46r3, f46r4, f46r5, f46r6, f46l7, f46r8, f46b]
  obtain ⟨a, c, rfl⟩ := hr.form
  repeat (first
 | refine za ?_ | refine zb ?_ | refine zc ?_ | refine zd ?_ | refine ze ?_ | refine zf ?_ | refine zg ?_ | refine zh ?_ | (refine zi ?_; try refine RgD_plain rfl ?_) | refine w_drawn rfl ?_ | refine zj ?_ | refine zl ?_
 | ((first | apply zs | (apply zt; (focus rfl)) | (apply zu; (focus rfl)) | (apply zv; (focus rfl)) | apply zx | apply zy | apply zB | apply zC | apply zD | apply zE | apply zF); (focus ((conv => lhs; simp); first | done | rfl)); first | apply zk | (apply zn; (focus rfl); try (focus (first | rfl | (simp; done)))) | (apply zo; (focus rfl)) | apply gv_u | apply gv_tt | apply gv_ff | apply gv_ft | apply gv_tf))
  refine w_loop (A := Nat × Value) (fun i env h' => i.1 ≤ xs.length ∧ env 6 = .slice a xs.length c ∧ env 7 = .int .i64 xs.length ∧ env 8 = .int .i64 i.1 ∧ env 3 = i.2 ∧ Grow h.size 50 4 h h' (.slice none 0 0) i.2 (elems spC ((xs.take i.1).map (·.s)))) (fun i => xs.length - i.1) (a0 := (0, .slice none 0 0)) ⟨by simp, by simp, by simp, by simp, by simp, .refl (.inl ⟨rfl, by simp⟩) (Nat.le_refl _) rfl⟩ ?_
  rintro ⟨i, w⟩ env h' ⟨hi, e6, e7, e8, e3, hg⟩
  simp only at hi e6 e7 e8 e3 hg
  by_cases hlt : i < xs.length
  · obtain ⟨s, hx, hd⟩ := elem_at hlt
    obtain ⟨b, o, cs, rfl, hb, hc, hga⟩ := (hr.keepB hg.keep (.inl rfl)).all sgC_len (by omega)
    have hgr : grab cs (o + i * 5) 5 = some [.int .i64 s.s.a, .int .i64 s.s.b, .int .i64 s.s.c, .int .i64 s.s.d, .int .i64 s.v] := hga i s hx hlt
    have w1 := wadd (i := i) (by omega)
    have hk1 := hg.keep.1
    have n1 : ¬ b = h'.size := by omega
    repeat (first
 | refine za ?_ | refine zb ?_ | refine zc ?_ | refine zd ?_ | refine ze ?_ | refine zf ?_ | refine zg ?_ | refine zh ?_ | (refine zi ?_; try refine RgD_plain rfl ?_) | refine w_drawn rfl ?_ | refine zj ?_ | refine zl ?_
 | ((first | apply zs | (apply zt; (focus rfl)) | (apply zu; (focus rfl)) | (apply zv; (focus rfl)) | apply zx | apply zy | apply zB | apply zC | apply zD | apply zE | apply zF); (focus ((conv => lhs; simp [e6, e7, e8, e3, hlt, hc, hgr, w1, hk1, n1]); first | done | rfl)); first | apply zk | (apply zn; (focus rfl); try (focus (first | rfl | (simp [e6, e7, e8, e3, hlt, hc, hgr, w1, hk1, n1]; done)))) | (apply zo; (focus rfl)) | apply gv_u | apply gv_tt | apply gv_ff | apply gv_ft | apply gv_tf))
    obtain ⟨v2, h2, q1, q2⟩ := ((hg.push (.cells (sgC s) 58)).push (.cells (spC s.s) 50)).append (by_ := 32) (n := i) (m := 1) (x := .slice (some ⟨h'.size + 1, 0, none⟩) 1 1) (l2 := spC s.s)
      (by omega) (by simp [srcCells, spC]) (by omega) (by rw [elems_len spC_len]; simp; omega) rfl (by omega) (by omega) rfl
    refine w_mem (v := v2) (h' := h2) rfl (by simpa [e3, spC, sgC] using q1) ?_
    clear hr hga hc hgr
    repeat (first
 | refine za ?_ | refine zb ?_ | refine zc ?_ | refine zd ?_ | refine ze ?_ | refine zf ?_ | refine zg ?_ | refine zh ?_ | (refine zi ?_; try refine RgD_plain rfl ?_) | refine w_drawn rfl ?_ | refine zj ?_ | refine zl ?_
 | ((first | apply zs | (apply zt; (focus rfl)) | (apply zu; (focus rfl)) | (apply zv; (focus rfl)) | apply zx | apply zy | apply zB | apply zC | apply zD | apply zE | apply zF); (focus ((conv => lhs; simp [e6, e7, e8, e3, hlt, w1]); first | done | rfl)); first | apply zk | (apply zn; (focus rfl); try (focus (first | rfl | (simp [e6, e7, e8, e3, hlt, w1]; done)))) | (apply zo; (focus rfl)) | apply gv_u | apply gv_tt | apply gv_ff | apply gv_ft | apply gv_tf))
    refine ⟨(i + 1, v2), ⟨by simp only; omega, by simp [e6], by simp [e7], by simp, by simp, ?_⟩, by simp only; omega⟩
    have : xs.take (i + 1) = xs.take i ++ [s] := by rw [List.take_add_one, hx]; rfl
    simp only [this, List.map_append, List.map_cons, List.map_nil, elems_append, elems_cons, elems_nil, List.append_nil]
    exact q2
  · have hh : xs.take i = xs := List.take_of_length_le (by omega)
    rw [hh] at hg
    obtain ⟨v', h2, q1, q2, q3, q4⟩ := finish_buf (f := f) (n := xs.length) hg.buf (by omega) (by rw [elems_len spC_len]; simp) hf (all_below_ints (elems_ints spC_ints _))
    repeat (first
 | refine za ?_ | refine zb ?_ | refine zc ?_ | refine zd ?_ | refine ze ?_ | refine zf ?_ | refine zg ?_ | refine zh ?_ | (refine zi ?_; try refine RgD_plain rfl ?_) | refine w_drawn rfl ?_ | refine zj ?_ | refine zl ?_
 | ((first | apply zs | (apply zt; (focus rfl)) | (apply zu; (focus rfl)) | (apply zv; (focus rfl)) | apply zx | apply zy | apply zB | apply zC | apply zD | apply zE | apply zF); (focus ((conv => lhs; simp [e6, e7, e8, e3, hlt]); first | done | rfl)); first | apply zk | (apply zn; (focus rfl); try (focus (first | rfl | (simp [e6, e7, e8, e3, hlt]; done)))) | (apply zo; (focus rfl)) | apply gv_u | apply gv_tt | apply gv_ff | apply gv_ft | apply gv_tf))
    exact w_endr (vs := [w]) (by simp [e3]) q1 ⟨q2, q3, by show Row h2 50 4 v' (xs.map _).length _; rw [List.length_map]; exact q4⟩
theorem sound_runs {v : Value} {xs : List Sg} (hr : GRow h v xs) (hl : xs.length ≤ 100000) : Runs X ⟨f, []⟩ 51 [v] h (.bool (sortedFrom none (xs.map (·.s)))) h := by
  refine callR.toRuns (callR_of rfl f51_is ?_)
  simp only [f51r0, f51r1, f51b]
  repeat (first
 | refine za ?_ | refine zb ?_ | refine zc ?_ | refine zd ?_ | refine ze ?_ | refine zf ?_ | refine zg ?_ | refine zh ?_ | (refine zi ?_; try refine RgD_plain rfl ?_) | refine w_drawn rfl ?_ | refine zj ?_ | refine zl ?_
 | ((first | apply zs | (apply zt; (focus rfl)) | (apply zu; (focus rfl)) | (apply zv; (focus rfl)) | apply zx | apply zy | apply zB | apply zC | apply zD | apply zE | apply zF); (focus ((conv => lhs; simp); first | done | rfl)); first | apply zk | (apply zn; (focus rfl); try (focus (first | rfl | (simp; done)))) | (apply zo; (focus rfl)) | apply gv_u | apply gv_tt | apply gv_ff | apply gv_ft | apply gv_tf))
  (apply zW; (focus ((conv => lhs; simp); first | done | rfl)); (focus exact spans_runs hr hl (Nat.le_refl _))); intro v' h' q
  obtain ⟨k1, b1, r1⟩ := q
  repeat (first
 | refine za ?_ | refine zb ?_ | refine zc ?_ | refine zd ?_ | refine ze ?_ | refine zf ?_ | refine zg ?_ | refine zh ?_ | (refine zi ?_; try refine RgD_plain rfl ?_) | refine w_drawn rfl ?_ | refine zj ?_ | refine zl ?_
 | ((first | apply zs | (apply zt; (focus rfl)) | (apply zu; (focus rfl)) | (apply zv; (focus rfl)) | apply zw | apply zx | apply zy | apply zB | apply zC | apply zD | apply zE | apply zF); (focus ((conv => lhs; simp); first | done | rfl)); first | apply zk | (apply zn; (focus rfl); try (focus (first | rfl | (simp; done)))) | (apply zo; (focus rfl)) | apply gv_u | apply gv_tt | apply gv_ff | apply gv_ft | apply gv_tf | exact (sorted2_runs r1 (by simp <;> omega))))
  exact ⟨rfl, rfl⟩
end Go.Proofs.YtmjaanhphkbkeaaGreat
end
