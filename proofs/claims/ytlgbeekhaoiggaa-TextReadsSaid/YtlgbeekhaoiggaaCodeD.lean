import Derived.Test.YtlgbeekhaoiggaaCodeC
import Derived.Test.YtlgbeekhaoiggaaCodeA
set_option linter.all false
section
namespace Go.Proofs.Ytlgbeekhaoiggaa
open Go.AM
set_option maxHeartbeats 4000000
variable {f : Nat} {h : Heap}
def behindC (n : Int) : Int × Int := if n = 9223372036854775807 then (1, 0) else (0, n + 1)
def spanOf (a b : Int × Int) : Sp × Int := if rightS (canon a).1 (canon a).2 (canon b).1 (canon b).2 then (⟨(canon a).1, (canon a).2, (canon b).1, (canon b).2⟩, 0) else (⟨0, 0, 0, 0⟩, 30)
def lowC (k a : Int) : Int × Int := if k = 1 then behindC a else if k = 2 then canon (0, a) else (-1, 0)
def highC (k a : Int) : Int × Int := if k = 1 then canon (0, a) else if k = 2 then behindC a else (1, 0)
def spanB (lk la hk ha : Int) : Sp × Int := if (0 ≤ lk ∧ lk ≤ 2) ∧ (0 ≤ hk ∧ hk ≤ 2) then spanOf (lowC lk la) (highC hk ha) else (⟨0, 0, 0, 0⟩, 40)
theorem behind_runs {n : Int} (hn : -9223372036854775808 ≤ n ∧ n ≤ 9223372036854775807) : Runs X ⟨f, []⟩ 186 [.int .i64 n] h (.agg #[.int .i64 (behindC n).1, .int .i64 (behindC n).2]) h := by
  refine Runs_of rfl f186_is ?_
  simp only [f186r0, f186r1, f186r2, f186r3, f186b]
  repeat' (first
 | refine za ?_ | refine zb ?_ | refine zc ?_ | refine zd ?_ | refine ze ?_ | refine zf ?_ | refine zg ?_ | refine zh ?_ | (refine zi ?_; try refine RgD_plain rfl ?_) | refine w_drawn rfl ?_ | refine zj ?_ | refine zl ?_
 | ((first | apply zs | (apply zt; (focus rfl)) | (apply zu; (focus rfl)) | (apply zv; (focus rfl)) | apply zw | apply zx | apply zy | apply zB | apply zC | apply zD | apply zE | apply zF); (focus ((conv => lhs; simp (disch := omega) [-env0_get, bound, List.getElem?_cons_zero, List.getElem?_cons_succ, odt, odf, oip, oin, obt, obf, ont, onf, wrapI, owu, ow8, ow32, otd, oe0, oe1, oe2, oe3, oe4, oe5, oe6, otn, ot1, ot2, ot4]); first | done | rfl)); first | apply zk | (apply zn; (focus rfl); try (focus (first | rfl | (simp; done)))) | (apply zo; (focus rfl)) | apply gv_u | apply gv_tt | apply gv_ff | apply gv_ft | apply gv_tf | (apply gv_split <;> intro hc <;> try simp only [decide_eq_true_eq, decide_eq_false_iff_not, beq_iff_eq, beq_eq_false_iff_ne, bne_iff_ne, bne_eq_false_iff_eq, Bool.not_true, Bool.not_false, ne_eq] at hc) | exact last_runs)
 | (simp (disch := omega) only [thenQ_normal, thenQ_exit, thenQ_ret, blockQ_normal, blockQ_ret, blockQ_exit_same, blockQ_exit_ne]))
  all_goals simp_all [behindC, tup]
theorem behind2_runs {n : Int} (hn : -9223372036854775808 ≤ n ∧ n ≤ 9223372036854775807) : Runs X ⟨f, []⟩ 172 [.int .i64 n] h (.agg #[.int .i64 (behindC n).1, .int .i64 (behindC n).2]) h := by
  refine Runs_of rfl f172_is ?_
  simp only [f172r0, f172r1, f172r2, f172r3, f172b]
  repeat' (first
 | refine za ?_ | refine zb ?_ | refine zc ?_ | refine zd ?_ | refine ze ?_ | refine zf ?_ | refine zg ?_ | refine zh ?_ | (refine zi ?_; try refine RgD_plain rfl ?_) | refine w_drawn rfl ?_ | refine zj ?_ | refine zl ?_
 | ((first | apply zs | (apply zt; (focus rfl)) | (apply zu; (focus rfl)) | (apply zv; (focus rfl)) | apply zw | apply zx | apply zy | apply zB | apply zC | apply zD | apply zE | apply zF); (focus ((conv => lhs; simp (disch := omega) [-env0_get, bound, List.getElem?_cons_zero, List.getElem?_cons_succ, odt, odf, oip, oin, obt, obf, ont, onf, wrapI, owu, ow8, ow32, otd, oe0, oe1, oe2, oe3, oe4, oe5, oe6, otn, ot1, ot2, ot4]); first | done | rfl)); first | apply zk | (apply zn; (focus rfl); try (focus (first | rfl | (simp; done)))) | (apply zo; (focus rfl)) | apply gv_u | apply gv_tt | apply gv_ff | apply gv_ft | apply gv_tf | (apply gv_split <;> intro hc <;> try simp only [decide_eq_true_eq, decide_eq_false_iff_not, beq_iff_eq, beq_eq_false_iff_ne, bne_iff_ne, bne_eq_false_iff_eq, Bool.not_true, Bool.not_false, ne_eq] at hc) | exact last_runs)
 | (simp (disch := omega) only [thenQ_normal, thenQ_exit, thenQ_ret, blockQ_normal, blockQ_ret, blockQ_exit_same, blockQ_exit_ne]))
  all_goals simp_all [behindC, tup]
theorem ahead_runs {n : Int} : Runs X ⟨f, []⟩ 187 [.int .i64 n] h (.agg #[.int .i64 (canon (0, n)).1, .int .i64 (canon (0, n)).2]) h := by
  refine Runs_of rfl f187_is ?_
  simp only [f187r0, f187r1, f187b]
  repeat' (first
 | refine za ?_ | refine zb ?_ | refine zc ?_ | refine zd ?_ | refine ze ?_ | refine zf ?_ | refine zg ?_ | refine zh ?_ | (refine zi ?_; try refine RgD_plain rfl ?_) | refine w_drawn rfl ?_ | refine zj ?_ | refine zl ?_
 | ((first | apply zs | (apply zt; (focus rfl)) | (apply zu; (focus rfl)) | (apply zv; (focus rfl)) | apply zw | apply zx | apply zy | apply zB | apply zC | apply zD | apply zE | apply zF); (focus ((conv => lhs; simp (disch := omega) [-env0_get, bound, List.getElem?_cons_zero, List.getElem?_cons_succ, odt, odf, oip, oin, obt, obf, ont, onf, wrapI, owu, ow8, ow32, otd, oe0, oe1, oe2, oe3, oe4, oe5, oe6, otn, ot1, ot2, ot4]); first | done | rfl)); first | apply zk | (apply zn; (focus rfl); try (focus (first | rfl | (simp; done)))) | (apply zo; (focus rfl)) | apply gv_u | apply gv_tt | apply gv_ff | apply gv_ft | apply gv_tf | (apply gv_split <;> intro hc <;> try simp only [decide_eq_true_eq, decide_eq_false_iff_not, beq_iff_eq, beq_eq_false_iff_ne, bne_iff_ne, bne_eq_false_iff_eq, Bool.not_true, Bool.not_false, ne_eq] at hc) | exact canon_runs)
 | (simp (disch := omega) only [thenQ_normal, thenQ_exit, thenQ_ret, blockQ_normal, blockQ_ret, blockQ_exit_same, blockQ_exit_ne]))
theorem ahead2_runs {n : Int} : Runs X ⟨f, []⟩ 108 [.int .i64 n] h (.agg #[.int .i64 (canon (0, n)).1, .int .i64 (canon (0, n)).2]) h := by
  refine Runs_of rfl f108_is ?_
  simp only [f108r0, f108r1, f108b]
  repeat' (first
 | refine za ?_ | refine zb ?_ | refine zc ?_ | refine zd ?_ | refine ze ?_ | refine zf ?_ | refine zg ?_ | refine zh ?_ | (refine zi ?_; try refine RgD_plain rfl ?_) | refine w_drawn rfl ?_ | refine zj ?_ | refine zl ?_
 | ((first | apply zs | (apply zt; (focus rfl)) | (apply zu; (focus rfl)) | (apply zv; (focus rfl)) | apply zw | apply zx | apply zy | apply zB | apply zC | apply zD | apply zE | apply zF); (focus ((conv => lhs; simp (disch := omega) [-env0_get, bound, List.getElem?_cons_zero, List.getElem?_cons_succ, odt, odf, oip, oin, obt, obf, ont, onf, wrapI, owu, ow8, ow32, otd, oe0, oe1, oe2, oe3, oe4, oe5, oe6, otn, ot1, ot2, ot4]); first | done | rfl)); first | apply zk | (apply zn; (focus rfl); try (focus (first | rfl | (simp; done)))) | (apply zo; (focus rfl)) | apply gv_u | apply gv_tt | apply gv_ff | apply gv_ft | apply gv_tf | (apply gv_split <;> intro hc <;> try simp only [decide_eq_true_eq, decide_eq_false_iff_not, beq_iff_eq, beq_eq_false_iff_ne, bne_iff_ne, bne_eq_false_iff_eq, Bool.not_true, Bool.not_false, ne_eq] at hc) | exact canon2_runs)
 | (simp (disch := omega) only [thenQ_normal, thenQ_exit, thenQ_ret, blockQ_normal, blockQ_ret, blockQ_exit_same, blockQ_exit_ne]))
abbrev spV (x : Sp) : Value := .agg #[.int .i64 x.a, .int .i64 x.b, .int .i64 x.c, .int .i64 x.d]
theorem of_runs {a b : Int × Int} : Runs X ⟨f, []⟩ 157 [.agg #[.int .i64 a.1, .int .i64 a.2], .agg #[.int .i64 b.1, .int .i64 b.2]] h (.tuple #[spV (spanOf a b).1, .int .i64 (spanOf a b).2]) h := by
  obtain ⟨a1, a2⟩ := a
  obtain ⟨b1, b2⟩ := b
  refine Runs_of rfl f157_is ?_
  simp only [f157r0, f157r1, f157r2, f157r3, f157r4, f157b]
  unfold spanOf
  cases hr : rightS (canon (a1, a2)).1 (canon (a1, a2)).2 (canon (b1, b2)).1 (canon (b1, b2)).2
  · simp only [Bool.false_eq_true, if_false]
    repeat' (first
 | refine za ?_ | refine zb ?_ | refine zc ?_ | refine zd ?_ | refine ze ?_ | refine zf ?_ | refine zg ?_ | refine zh ?_ | (refine zi ?_; try refine RgD_plain rfl ?_) | refine w_drawn rfl ?_ | refine zj ?_ | refine zl ?_
 | ((first | apply zs | (apply zt; (focus rfl)) | (apply zu; (focus rfl)) | (apply zv; (focus rfl)) | apply zw | apply zx | apply zy | apply zB | apply zC | apply zD | apply zE | apply zF); (focus ((conv => lhs; simp (disch := omega) [-env0_get, bound, List.getElem?_cons_zero, List.getElem?_cons_succ, odt, odf, oip, oin, obt, obf, ont, onf, wrapI, owu, ow8, ow32, otd, oe0, oe1, oe2, oe3, oe4, oe5, oe6, otn, ot1, ot2, ot4, hr]); first | done | rfl)); first | apply zk | (apply zn; (focus rfl); try (focus (first | rfl | (simp [hr]; done)))) | (apply zo; (focus rfl)) | apply gv_u | apply gv_tt | apply gv_ff | apply gv_ft | apply gv_tf | (apply gv_split <;> intro hc <;> try simp only [decide_eq_true_eq, decide_eq_false_iff_not, beq_iff_eq, beq_eq_false_iff_ne, bne_iff_ne, bne_eq_false_iff_eq, Bool.not_true, Bool.not_false, ne_eq] at hc) | exact canon_runs | exact rightS_runs)
 | (simp (disch := omega) only [thenQ_normal, thenQ_exit, thenQ_ret, blockQ_normal, blockQ_ret, blockQ_exit_same, blockQ_exit_ne]))
  · simp only [if_true]
    repeat' (first
 | refine za ?_ | refine zb ?_ | refine zc ?_ | refine zd ?_ | refine ze ?_ | refine zf ?_ | refine zg ?_ | refine zh ?_ | (refine zi ?_; try refine RgD_plain rfl ?_) | refine w_drawn rfl ?_ | refine zj ?_ | refine zl ?_
 | ((first | apply zs | (apply zt; (focus rfl)) | (apply zu; (focus rfl)) | (apply zv; (focus rfl)) | apply zw | apply zx | apply zy | apply zB | apply zC | apply zD | apply zE | apply zF); (focus ((conv => lhs; simp (disch := omega) [-env0_get, bound, List.getElem?_cons_zero, List.getElem?_cons_succ, odt, odf, oip, oin, obt, obf, ont, onf, wrapI, owu, ow8, ow32, otd, oe0, oe1, oe2, oe3, oe4, oe5, oe6, otn, ot1, ot2, ot4, hr]); first | done | rfl)); first | apply zk | (apply zn; (focus rfl); try (focus (first | rfl | (simp [hr]; done)))) | (apply zo; (focus rfl)) | apply gv_u | apply gv_tt | apply gv_ff | apply gv_ft | apply gv_tf | (apply gv_split <;> intro hc <;> try simp only [decide_eq_true_eq, decide_eq_false_iff_not, beq_iff_eq, beq_eq_false_iff_ne, bne_iff_ne, bne_eq_false_iff_eq, Bool.not_true, Bool.not_false, ne_eq] at hc) | exact canon_runs | exact rightS_runs)
 | (simp (disch := omega) only [thenQ_normal, thenQ_exit, thenQ_ret, blockQ_normal, blockQ_ret, blockQ_exit_same, blockQ_exit_ne]))
theorem of2_runs {a b : Int × Int} : Runs X ⟨f, []⟩ 173 [.agg #[.int .i64 a.1, .int .i64 a.2], .agg #[.int .i64 b.1, .int .i64 b.2]] h (.tuple #[spV (spanOf a b).1, .int .i64 (spanOf a b).2]) h := by
  obtain ⟨a1, a2⟩ := a
  obtain ⟨b1, b2⟩ := b
  refine Runs_of rfl f173_is ?_
  simp only [f173r0, f173r1, f173r2, f173r3, f173r4, f173b]
  unfold spanOf
  cases hr : rightS (canon (a1, a2)).1 (canon (a1, a2)).2 (canon (b1, b2)).1 (canon (b1, b2)).2
  · simp only [Bool.false_eq_true, if_false]
    repeat' (first
 | refine za ?_ | refine zb ?_ | refine zc ?_ | refine zd ?_ | refine ze ?_ | refine zf ?_ | refine zg ?_ | refine zh ?_ | (refine zi ?_; try refine RgD_plain rfl ?_) | refine w_drawn rfl ?_ | refine zj ?_ | refine zl ?_
 | ((first | apply zs | (apply zt; (focus rfl)) | (apply zu; (focus rfl)) | (apply zv; (focus rfl)) | apply zw | apply zx | apply zy | apply zB | apply zC | apply zD | apply zE | apply zF); (focus ((conv => lhs; simp (disch := omega) [-env0_get, bound, List.getElem?_cons_zero, List.getElem?_cons_succ, odt, odf, oip, oin, obt, obf, ont, onf, wrapI, owu, ow8, ow32, otd, oe0, oe1, oe2, oe3, oe4, oe5, oe6, otn, ot1, ot2, ot4, hr]); first | done | rfl)); first | apply zk | (apply zn; (focus rfl); try (focus (first | rfl | (simp [hr]; done)))) | (apply zo; (focus rfl)) | apply gv_u | apply gv_tt | apply gv_ff | apply gv_ft | apply gv_tf | (apply gv_split <;> intro hc <;> try simp only [decide_eq_true_eq, decide_eq_false_iff_not, beq_iff_eq, beq_eq_false_iff_ne, bne_iff_ne, bne_eq_false_iff_eq, Bool.not_true, Bool.not_false, ne_eq] at hc) | exact canon2_runs | exact rightS2_runs)
 | (simp (disch := omega) only [thenQ_normal, thenQ_exit, thenQ_ret, blockQ_normal, blockQ_ret, blockQ_exit_same, blockQ_exit_ne]))
  · simp only [if_true]
    repeat' (first
 | refine za ?_ | refine zb ?_ | refine zc ?_ | refine zd ?_ | refine ze ?_ | refine zf ?_ | refine zg ?_ | refine zh ?_ | (refine zi ?_; try refine RgD_plain rfl ?_) | refine w_drawn rfl ?_ | refine zj ?_ | refine zl ?_
 | ((first | apply zs | (apply zt; (focus rfl)) | (apply zu; (focus rfl)) | (apply zv; (focus rfl)) | apply zw | apply zx | apply zy | apply zB | apply zC | apply zD | apply zE | apply zF); (focus ((conv => lhs; simp (disch := omega) [-env0_get, bound, List.getElem?_cons_zero, List.getElem?_cons_succ, odt, odf, oip, oin, obt, obf, ont, onf, wrapI, owu, ow8, ow32, otd, oe0, oe1, oe2, oe3, oe4, oe5, oe6, otn, ot1, ot2, ot4, hr]); first | done | rfl)); first | apply zk | (apply zn; (focus rfl); try (focus (first | rfl | (simp [hr]; done)))) | (apply zo; (focus rfl)) | apply gv_u | apply gv_tt | apply gv_ff | apply gv_ft | apply gv_tf | (apply gv_split <;> intro hc <;> try simp only [decide_eq_true_eq, decide_eq_false_iff_not, beq_iff_eq, beq_eq_false_iff_ne, bne_iff_ne, bne_eq_false_iff_eq, Bool.not_true, Bool.not_false, ne_eq] at hc) | exact canon2_runs | exact rightS2_runs)
 | (simp (disch := omega) only [thenQ_normal, thenQ_exit, thenQ_ret, blockQ_normal, blockQ_ret, blockQ_exit_same, blockQ_exit_ne]))
theorem bright_runs {k a : Int} : Runs X ⟨f, []⟩ 185 [.agg #[.int .i64 k, .int .i64 a]] h (.bool (decide (0 ≤ k ∧ k ≤ 2))) h := by
  refine Runs_of rfl f185_is ?_
  simp only [f185r0, f185r1, f185b]
  repeat' (first
 | refine za ?_ | refine zb ?_ | refine zc ?_ | refine zd ?_ | refine ze ?_ | refine zf ?_ | refine zg ?_ | refine zh ?_ | (refine zi ?_; try refine RgD_plain rfl ?_) | refine w_drawn rfl ?_ | refine zj ?_ | refine zl ?_
 | ((first | apply zs | (apply zt; (focus rfl)) | (apply zu; (focus rfl)) | (apply zv; (focus rfl)) | apply zx | apply zy | apply zB | apply zC | apply zD | apply zE | apply zF); (focus ((conv => lhs; simp (disch := omega) [-env0_get, bound, List.getElem?_cons_zero, List.getElem?_cons_succ, odt, odf, oip, oin, obt, obf, ont, onf, wrapI, owu, ow8, ow32, otd, oe0, oe1, oe2, oe3, oe4, oe5, oe6, otn, ot1, ot2, ot4]); first | done | rfl)); first | apply zk | (apply zn; (focus rfl); try (focus (first | rfl | (simp; done)))) | (apply zo; (focus rfl)) | apply gv_u | apply gv_tt | apply gv_ff | apply gv_ft | apply gv_tf | (apply gv_split <;> intro hc <;> try simp only [decide_eq_true_eq, decide_eq_false_iff_not, beq_iff_eq, beq_eq_false_iff_ne, bne_iff_ne, bne_eq_false_iff_eq, Bool.not_true, Bool.not_false, ne_eq] at hc))
 | (simp (disch := omega) only [thenQ_normal, thenQ_exit, thenQ_ret, blockQ_normal, blockQ_ret, blockQ_exit_same, blockQ_exit_ne]))
  all_goals (simp_all [tup]; try omega)
theorem spanB_runs {lk la hk ha : Int} (h1 : 0 ≤ lk ∧ lk ≤ 2) (h2 : 0 ≤ hk ∧ hk ≤ 2) (h3 : -9223372036854775808 ≤ la ∧ la ≤ 9223372036854775807) (h4 : -9223372036854775808 ≤ ha ∧ ha ≤ 9223372036854775807) :
    Runs X ⟨f, []⟩ 170 [.agg #[.int .i64 lk, .int .i64 la], .agg #[.int .i64 hk, .int .i64 ha]] h (.tuple #[spV (spanB lk la hk ha).1, .int .i64 (spanB lk la hk ha).2]) h := by
  have e : spanB lk la hk ha = spanOf (lowC lk la) (highC hk ha) := if_pos ⟨h1, h2⟩
  rw [e]
  refine Runs_of rfl f170_is ?_
  simp only [f170r0, f170r1, f170r2, f170r3, f170r4, f170r5, f170r6, f170r7, f170r8, f170r9, f170r10, f170r11, f170r12, f170r13, f170r14, f170b]
  rcases (by omega : lk = 0 ∨ lk = 1 ∨ lk = 2) with rfl | rfl | rfl <;> rcases (by omega : hk = 0 ∨ hk = 1 ∨ hk = 2) with rfl | rfl | rfl <;> simp only [lowC, highC, if_true, show ¬ (0 : Int) = 1 by omega, show ¬ (0 : Int) = 2 by omega, show ¬ (2 : Int) = 1 by omega, if_false]
  all_goals repeat' (first
 | refine za ?_ | refine zb ?_ | refine zc ?_ | refine zd ?_ | refine ze ?_ | refine zf ?_ | refine zg ?_ | refine zh ?_ | (refine zi ?_; try refine RgD_plain rfl ?_) | refine w_drawn rfl ?_ | refine zj ?_ | refine zl ?_
 | ((first | apply zs | (apply zt; (focus rfl)) | (apply zu; (focus rfl)) | (apply zv; (focus rfl)) | apply zw | apply zx | apply zy | apply zB | apply zC | apply zD | apply zE | apply zF); (focus ((conv => lhs; simp (disch := omega) [-env0_get, bound, List.getElem?_cons_zero, List.getElem?_cons_succ, odt, odf, oip, oin, obt, obf, ont, onf, wrapI, owu, ow8, ow32, otd, oe0, oe1, oe2, oe3, oe4, oe5, oe6, otn, ot1, ot2, ot4]); first | done | rfl)); first | apply zk | (apply zn; (focus rfl); try (focus (first | rfl | (simp; done)))) | (apply zo; (focus rfl)) | apply gv_u | apply gv_tt | apply gv_ff | apply gv_ft | apply gv_tf | (apply gv_split <;> intro hc <;> try simp only [decide_eq_true_eq, decide_eq_false_iff_not, beq_iff_eq, beq_eq_false_iff_ne, bne_iff_ne, bne_eq_false_iff_eq, Bool.not_true, Bool.not_false, ne_eq] at hc) | exact bright_runs | exact first_runs | exact last_runs | exact (behind_runs h3) | exact (behind_runs h4) | exact ahead_runs | exact of_runs | exact (of_runs (a := (-1, 0))) | exact (of_runs (b := (1, 0))) | exact (of_runs (a := (-1, 0)) (b := (1, 0))))
 | (simp (disch := omega) only [thenQ_normal, thenQ_exit, thenQ_ret, blockQ_normal, blockQ_ret, blockQ_exit_same, blockQ_exit_ne]))
theorem spanB2_runs {lk la hk ha : Int} (h1 : 0 ≤ lk ∧ lk ≤ 2) (h2 : 0 ≤ hk ∧ hk ≤ 2) (h3 : -9223372036854775808 ≤ la ∧ la ≤ 9223372036854775807) (h4 : -9223372036854775808 ≤ ha ∧ ha ≤ 9223372036854775807) :
    Runs X ⟨f, []⟩ 142 [.agg #[.int .i64 lk, .int .i64 la], .agg #[.int .i64 hk, .int .i64 ha]] h (.tuple #[spV (spanB lk la hk ha).1, .int .i64 (spanB lk la hk ha).2]) h := by
  have e : spanB lk la hk ha = spanOf (lowC lk la) (highC hk ha) := if_pos ⟨h1, h2⟩
  rw [e]
  refine Runs_of rfl f142_is ?_
  simp only [f142r0, f142r1, f142r2, f142r3, f142r4, f142r5, f142r6, f142r7, f142r8, f142r9, f142r10, f142r11, f142r12, f142r13, f142b]
  rcases (by omega : lk = 0 ∨ lk = 1 ∨ lk = 2) with rfl | rfl | rfl <;> rcases (by omega : hk = 0 ∨ hk = 1 ∨ hk = 2) with rfl | rfl | rfl <;> simp only [lowC, highC, if_true, show ¬ (0 : Int) = 1 by omega, show ¬ (0 : Int) = 2 by omega, show ¬ (2 : Int) = 1 by omega, if_false]
  all_goals repeat' (first
 | refine za ?_ | refine zb ?_ | refine zc ?_ | refine zd ?_ | refine ze ?_ | refine zf ?_ | refine zg ?_ | refine zh ?_ | (refine zi ?_; try refine RgD_plain rfl ?_) | refine w_drawn rfl ?_ | refine zj ?_ | refine zl ?_
 | ((first | apply zs | (apply zt; (focus rfl)) | (apply zu; (focus rfl)) | (apply zv; (focus rfl)) | apply zw | apply zx | apply zy | apply zB | apply zC | apply zD | apply zE | apply zF); (focus ((conv => lhs; simp (disch := omega) [-env0_get, bound, List.getElem?_cons_zero, List.getElem?_cons_succ, odt, odf, oip, oin, obt, obf, ont, onf, wrapI, owu, ow8, ow32, otd, oe0, oe1, oe2, oe3, oe4, oe5, oe6, otn, ot1, ot2, ot4]); first | done | rfl)); first | apply zk | (apply zn; (focus rfl); try (focus (first | rfl | (simp; done)))) | (apply zo; (focus rfl)) | apply gv_u | apply gv_tt | apply gv_ff | apply gv_ft | apply gv_tf | (apply gv_split <;> intro hc <;> try simp only [decide_eq_true_eq, decide_eq_false_iff_not, beq_iff_eq, beq_eq_false_iff_ne, bne_iff_ne, bne_eq_false_iff_eq, Bool.not_true, Bool.not_false, ne_eq] at hc) | exact (behind2_runs h3) | exact (behind2_runs h4) | exact ahead2_runs | exact of2_runs | exact (of2_runs (a := (-1, 0))) | exact (of2_runs (b := (1, 0))) | exact (of2_runs (a := (-1, 0)) (b := (1, 0))))
 | (simp (disch := omega) only [thenQ_normal, thenQ_exit, thenQ_ret, blockQ_normal, blockQ_ret, blockQ_exit_same, blockQ_exit_ne]))
def plainR (l : List UInt8) : Int × Nat := if (cutR l).1.1 = 0 then ((cutR l).1.2, (cutR l).2) else (0, 0)
theorem plain_runs {l : List UInt8} (hl : l.length ≤ 900000) : Runs X ⟨f, []⟩ 135 [sv l] h (.tuple #[.int .i64 (plainR l).1, .int .i64 (plainR l).2]) h := by
  refine Runs_of rfl f135_is ?_
  simp only [f135r0, f135r1, f135r2, f135r3, f135r4, f135b]
  unfold plainR
  by_cases hc : (cutR l).1.1 = 0
  · rw [if_pos hc]
    repeat' (first
 | refine za ?_ | refine zb ?_ | refine zc ?_ | refine zd ?_ | refine ze ?_ | refine zf ?_ | refine zg ?_ | refine zh ?_ | (refine zi ?_; try refine RgD_plain rfl ?_) | refine w_drawn rfl ?_ | refine zj ?_ | refine zl ?_
 | ((first | apply zs | (apply zt; (focus rfl)) | (apply zu; (focus rfl)) | (apply zv; (focus rfl)) | apply zw | apply zx | apply zy | apply zB | apply zC | apply zD | apply zE | apply zF); (focus ((conv => lhs; simp (disch := omega) [-env0_get, bound, List.getElem?_cons_zero, List.getElem?_cons_succ, odt, odf, oip, oin, obt, obf, ont, onf, wrapI, owu, ow8, ow32, otd, oe0, oe1, oe2, oe3, oe4, oe5, oe6, otn, ot1, ot2, ot4, hc]); first | done | rfl)); first | apply zk | (apply zn; (focus rfl); try (focus (first | rfl | (simp [hc]; done)))) | (apply zo; (focus rfl)) | apply gv_u | apply gv_tt | apply gv_ff | apply gv_ft | apply gv_tf | (apply gv_split <;> intro hc <;> try simp only [decide_eq_true_eq, decide_eq_false_iff_not, beq_iff_eq, beq_eq_false_iff_ne, bne_iff_ne, bne_eq_false_iff_eq, Bool.not_true, Bool.not_false, ne_eq] at hc) | exact (cutRead_runs hl))
 | (simp (disch := omega) only [thenQ_normal, thenQ_exit, thenQ_ret, blockQ_normal, blockQ_ret, blockQ_exit_same, blockQ_exit_ne]))
  · rw [if_neg hc]
    have hc' : ((cutR l).1.1 != 0) = true := by simp [hc]
    repeat' (first
 | refine za ?_ | refine zb ?_ | refine zc ?_ | refine zd ?_ | refine ze ?_ | refine zf ?_ | refine zg ?_ | refine zh ?_ | (refine zi ?_; try refine RgD_plain rfl ?_) | refine w_drawn rfl ?_ | refine zj ?_ | refine zl ?_
 | ((first | apply zs | (apply zt; (focus rfl)) | (apply zu; (focus rfl)) | (apply zv; (focus rfl)) | apply zw | apply zx | apply zy | apply zB | apply zC | apply zD | apply zE | apply zF); (focus ((conv => lhs; simp (disch := omega) [-env0_get, bound, List.getElem?_cons_zero, List.getElem?_cons_succ, odt, odf, oip, oin, obt, obf, ont, onf, wrapI, owu, ow8, ow32, otd, oe0, oe1, oe2, oe3, oe4, oe5, oe6, otn, ot1, ot2, ot4, hc']); first | done | rfl)); first | apply zk | (apply zn; (focus rfl); try (focus (first | rfl | (simp [hc']; done)))) | (apply zo; (focus rfl)) | apply gv_u | apply gv_tt | apply gv_ff | apply gv_ft | apply gv_tf | (apply gv_split <;> intro hc <;> try simp only [decide_eq_true_eq, decide_eq_false_iff_not, beq_iff_eq, beq_eq_false_iff_ne, bne_iff_ne, bne_eq_false_iff_eq, Bool.not_true, Bool.not_false, ne_eq] at hc) | exact (cutRead_runs hl))
 | (simp (disch := omega) only [thenQ_normal, thenQ_exit, thenQ_ret, blockQ_normal, blockQ_ret, blockQ_exit_same, blockQ_exit_ne]))
def toldP (s : St) (lk la hk ha : Int) (at_ : Nat) : Sp × Nat × Int := if s.2 then (⟨0, 0, 0, 0⟩, s.1, 40) else if (spanB lk la hk ha).2 = 0 then ((spanB lk la hk ha).1, s.1, 0) else (⟨0, 0, 0, 0⟩, at_, (spanB lk la hk ha).2)
theorem told_runs {p : Nat} {l : List UInt8} {lo : Bool} {s : St} {lk la hk ha : Int} {at_ : Nat} (hp : h[p]? = some (rdO l lo s)) (h1 : 0 ≤ lk ∧ lk ≤ 2) (h2 : 0 ≤ hk ∧ hk ≤ 2) (h3 : -9223372036854775808 ≤ la ∧ la ≤ 9223372036854775807) (h4 : -9223372036854775808 ≤ ha ∧ ha ≤ 9223372036854775807) :
    Runs X ⟨f, []⟩ 136 [.pointer (some ⟨p, 0, none⟩), .agg #[.int .i64 lk, .int .i64 la], .agg #[.int .i64 hk, .int .i64 ha], .int .i64 at_] h (.tuple #[spV (toldP s lk la hk ha at_).1, .int .i64 (toldP s lk la hk ha at_).2.1, .int .i64 (toldP s lk la hk ha at_).2.2]) h := by
  have hlt := (Array.getElem?_eq_some_iff.1 hp).1
  obtain ⟨at2, am⟩ := s
  have c0 : h.cellsAt p = some [sv l, .int .i64 at2, .bool am, .bool lo] := by unfold Heap.cellsAt; rw [hp]; rfl
  refine Runs_of rfl f136_is ?_
  simp only [f136r0, f136r1, f136r2, f136r3, f136r4, f136r5, f136r6, f136b]
  unfold toldP
  cases am with
  | true =>
    simp only [if_true]
    repeat' (first
 | refine za ?_ | refine zb ?_ | refine zc ?_ | refine zd ?_ | refine ze ?_ | refine zf ?_ | refine zg ?_ | refine zh ?_ | (refine zi ?_; try refine RgD_plain rfl ?_) | refine w_drawn rfl ?_ | refine zj ?_ | refine zl ?_
 | ((first | apply zs | (apply zt; (focus rfl)) | (apply zu; (focus rfl)) | (apply zv; (focus rfl)) | apply zx | apply zy | apply zB | apply zC | apply zD | apply zE | apply zF); (focus ((conv => lhs; simp (disch := omega) [-env0_get, bound, List.getElem?_cons_zero, List.getElem?_cons_succ, odt, odf, oip, oin, obt, obf, ont, onf, wrapI, owu, ow8, ow32, otd, oe0, oe1, oe2, oe3, oe4, oe5, oe6, otn, ot1, ot2, ot4, c0]); first | done | rfl)); first | apply zk | (apply zn; (focus rfl); try (focus (first | rfl | (simp [c0]; done)))) | (apply zo; (focus rfl)) | apply gv_u | apply gv_tt | apply gv_ff | apply gv_ft | apply gv_tf | (apply gv_split <;> intro hc <;> try simp only [decide_eq_true_eq, decide_eq_false_iff_not, beq_iff_eq, beq_eq_false_iff_ne, bne_iff_ne, bne_eq_false_iff_eq, Bool.not_true, Bool.not_false, ne_eq] at hc))
 | (simp (disch := omega) only [thenQ_normal, thenQ_exit, thenQ_ret, blockQ_normal, blockQ_ret, blockQ_exit_same, blockQ_exit_ne]))
  | false =>
    simp only [Bool.false_eq_true, if_false]
    by_cases he : (spanB lk la hk ha).2 = 0
    · rw [if_pos he]
      repeat' (first
 | refine za ?_ | refine zb ?_ | refine zc ?_ | refine zd ?_ | refine ze ?_ | refine zf ?_ | refine zg ?_ | refine zh ?_ | (refine zi ?_; try refine RgD_plain rfl ?_) | refine w_drawn rfl ?_ | refine zj ?_ | refine zl ?_
 | ((first | apply zs | (apply zt; (focus rfl)) | (apply zu; (focus rfl)) | (apply zv; (focus rfl)) | apply zw | apply zx | apply zy | apply zB | apply zC | apply zD | apply zE | apply zF); (focus ((conv => lhs; simp (disch := omega) [-env0_get, bound, List.getElem?_cons_zero, List.getElem?_cons_succ, odt, odf, oip, oin, obt, obf, ont, onf, wrapI, owu, ow8, ow32, otd, oe0, oe1, oe2, oe3, oe4, oe5, oe6, otn, ot1, ot2, ot4, c0, he]); first | done | rfl)); first | apply zk | (apply zn; (focus rfl); try (focus (first | rfl | (simp [c0, he]; done)))) | (apply zo; (focus rfl)) | apply gv_u | apply gv_tt | apply gv_ff | apply gv_ft | apply gv_tf | (apply gv_split <;> intro hc <;> try simp only [decide_eq_true_eq, decide_eq_false_iff_not, beq_iff_eq, beq_eq_false_iff_ne, bne_iff_ne, bne_eq_false_iff_eq, Bool.not_true, Bool.not_false, ne_eq] at hc) | exact (spanB_runs h1 h2 h3 h4))
 | (simp (disch := omega) only [thenQ_normal, thenQ_exit, thenQ_ret, blockQ_normal, blockQ_ret, blockQ_exit_same, blockQ_exit_ne]))
    · rw [if_neg he]
      repeat' (first
 | refine za ?_ | refine zb ?_ | refine zc ?_ | refine zd ?_ | refine ze ?_ | refine zf ?_ | refine zg ?_ | refine zh ?_ | (refine zi ?_; try refine RgD_plain rfl ?_) | refine w_drawn rfl ?_ | refine zj ?_ | refine zl ?_
 | ((first | apply zs | (apply zt; (focus rfl)) | (apply zu; (focus rfl)) | (apply zv; (focus rfl)) | apply zw | apply zx | apply zy | apply zB | apply zC | apply zD | apply zE | apply zF); (focus ((conv => lhs; simp (disch := omega) [-env0_get, bound, List.getElem?_cons_zero, List.getElem?_cons_succ, odt, odf, oip, oin, obt, obf, ont, onf, wrapI, owu, ow8, ow32, otd, oe0, oe1, oe2, oe3, oe4, oe5, oe6, otn, ot1, ot2, ot4, c0]); first | done | rfl)); first | apply zk | (apply zn; (focus rfl); try (focus (first | rfl | (simp [c0]; done)))) | (apply zo; (focus rfl)) | apply gv_u | apply gv_tt | apply gv_ff | apply gv_ft | apply gv_tf | (apply gv_split <;> intro hc <;> try simp only [decide_eq_true_eq, decide_eq_false_iff_not, beq_iff_eq, beq_eq_false_iff_ne, bne_iff_ne, bne_eq_false_iff_eq, Bool.not_true, Bool.not_false, ne_eq] at hc) | exact (spanB_runs h1 h2 h3 h4))
 | (simp (disch := omega) only [thenQ_normal, thenQ_exit, thenQ_ret, blockQ_normal, blockQ_ret, blockQ_exit_same, blockQ_exit_ne]))
end Go.Proofs.Ytlgbeekhaoiggaa
end

section
namespace Go.Proofs.Ytlgbeekhaoiggaa
open Go.AM
set_option maxHeartbeats 4000000
variable {f : Nat} {h : Heap}
def isAt (l : List UInt8) (i : Nat) (w : List UInt8) : Bool := decide ((l.drop i).take w.length = w)
def sk (lo : Bool) (l : List UInt8) (i : Nat) : Nat := if lo then skip l i else i
def endN (lo : Bool) (l : List UInt8) (i : Nat) (w : List UInt8) : (Int × Int) × Option Nat :=
  if isAt l i w = true then ((0, 0), some (i + 4)) else
    if (if lo then satRead (l.drop i) else plainR (l.drop i)).2 = 0 then ((0, 0), none) else ((1, (if lo then satRead (l.drop i) else plainR (l.drop i)).1), some (i + (if lo then satRead (l.drop i) else plainR (l.drop i)).2))
def sp0 : Sp := ⟨0, 0, 0, 0⟩
def badN (i : Nat) : Sp × Nat × Int := (sp0, i, 40)
def readD (lo : Bool) (l : List UInt8) (low high : Int × Int) (i j : Nat) : Sp × Nat × Int :=
  if (lo && isAt l j [93]) = false ∧ isAt l j [41] = false then badN j else
    if (spanB low.1 low.2 (if high.1 = 1 ∧ (lo && isAt l j [93]) = true then 2 else high.1) high.2).2 = 0 then ((spanB low.1 low.2 (if high.1 = 1 ∧ (lo && isAt l j [93]) = true then 2 else high.1) high.2).1, j + 1, 0)
    else (sp0, i, (spanB low.1 low.2 (if high.1 = 1 ∧ (lo && isAt l j [93]) = true then 2 else high.1) high.2).2)
def readC (lo : Bool) (l : List UInt8) (low : Int × Int) (i : Nat) : Sp × Nat × Int :=
  match (endN lo l i pinf).2 with
  | none => badN i
  | some j => readD lo l low (endN lo l i pinf).1 i (sk lo l j)
def readB (lo : Bool) (l : List UInt8) (low : Int × Int) (i : Nat) : Sp × Nat × Int := if isAt l i [44] = true then readC lo l low (sk lo l (i + 1)) else badN i
def readA (lo : Bool) (l : List UInt8) (op : Bool) (i : Nat) : Sp × Nat × Int :=
  if lo = false ∧ op ≠ isAt l i minf then badN i else
  match (endN lo l i minf).2 with
  | none => badN i
  | some j => readB lo l (if (endN lo l i minf).1.1 = 1 ∧ op = false then (2, (endN lo l i minf).1.2) else (endN lo l i minf).1) (sk lo l j)
def readN (lo : Bool) (l : List UInt8) : Sp × Nat × Int := if isAt l 0 [40] = false ∧ isAt l 0 [91] = false then badN 0 else readA lo l (isAt l 0 [40]) (sk lo l 1)
theorem is4_runs {l w : List UInt8} {i : Nat} (hl : l.length ≤ 900000) (hi : i ≤ l.length) (hw : w.length ≤ 1000) : Runs X ⟨f, []⟩ 139 [sv l, .int .i64 i, sv w] h (.bool (isAt l i w)) h := by
  have ht : ∀ n, List.drop i (List.take (i + n) l) = (l.drop i).take n := fun n => by rw [List.drop_take]; congr 1; omega
  refine Runs_of rfl f139_is ?_
  simp only [f139r0, f139r1, f139b]
  unfold isAt
  by_cases hw2 : (l.drop i).take w.length = w
  · have hlen : i + w.length ≤ l.length := by have := congrArg List.length hw2; simp at this; omega
    have hb : ((l.drop i).take w.length == w) = true := by rw [hw2]; simp
    rw [decide_eq_true hw2]
    repeat' (first
 | refine za ?_ | refine zb ?_ | refine zc ?_ | refine zd ?_ | refine ze ?_ | refine zf ?_ | refine zg ?_ | refine zh ?_ | (refine zi ?_; try refine RgD_plain rfl ?_) | refine w_drawn rfl ?_ | refine zj ?_ | refine zl ?_
 | ((first | apply zs | (apply zt; (focus rfl)) | (apply zu; (focus rfl)) | (apply zv; (focus rfl)) | apply zx | apply zy | apply zB | apply zC | apply zD | apply zE | apply zF); (focus ((conv => lhs; simp (disch := omega) [-env0_get, bound, List.getElem?_cons_zero, List.getElem?_cons_succ, odt, odf, oip, oin, obt, obf, ont, onf, wrapI, owu, ow8, ow32, otd, oe0, oe1, oe2, oe3, oe4, oe5, oe6, otn, ot1, ot2, ot4, ht, hb]); first | done | rfl)); first | apply zk | (apply zn; (focus rfl); try (focus (first | rfl | (simp [ht, hb]; done)))) | (apply zo; (focus rfl)) | apply gv_u | apply gv_tt | apply gv_ff | apply gv_ft | apply gv_tf | (apply gv_split <;> intro hc <;> try simp only [decide_eq_true_eq, decide_eq_false_iff_not, beq_iff_eq, beq_eq_false_iff_ne, bne_iff_ne, bne_eq_false_iff_eq, Bool.not_true, Bool.not_false, ne_eq] at hc))
 | (simp (disch := omega) only [thenQ_normal, thenQ_exit, thenQ_ret, blockQ_normal, blockQ_ret, blockQ_exit_same, blockQ_exit_ne]))
    all_goals simp_all [tup]
  · have hb : ((l.drop i).take w.length == w) = false := by simpa using hw2
    rw [decide_eq_false hw2]
    repeat' (first
 | refine za ?_ | refine zb ?_ | refine zc ?_ | refine zd ?_ | refine ze ?_ | refine zf ?_ | refine zg ?_ | refine zh ?_ | (refine zi ?_; try refine RgD_plain rfl ?_) | refine w_drawn rfl ?_ | refine zj ?_ | refine zl ?_
 | ((first | apply zs | (apply zt; (focus rfl)) | (apply zu; (focus rfl)) | (apply zv; (focus rfl)) | apply zx | apply zy | apply zB | apply zC | apply zD | apply zE | apply zF); (focus ((conv => lhs; simp (disch := omega) [-env0_get, bound, List.getElem?_cons_zero, List.getElem?_cons_succ, odt, odf, oip, oin, obt, obf, ont, onf, wrapI, owu, ow8, ow32, otd, oe0, oe1, oe2, oe3, oe4, oe5, oe6, otn, ot1, ot2, ot4, ht, hb]); first | done | rfl)); first | apply zk | (apply zn; (focus rfl); try (focus (first | rfl | (simp [ht, hb]; done)))) | (apply zo; (focus rfl)) | apply gv_u | apply gv_tt | apply gv_ff | apply gv_ft | apply gv_tf | (apply gv_split <;> intro hc <;> try simp only [decide_eq_true_eq, decide_eq_false_iff_not, beq_iff_eq, beq_eq_false_iff_ne, bne_iff_ne, bne_eq_false_iff_eq, Bool.not_true, Bool.not_false, ne_eq] at hc))
 | (simp (disch := omega) only [thenQ_normal, thenQ_exit, thenQ_ret, blockQ_normal, blockQ_ret, blockQ_exit_same, blockQ_exit_ne]))
    all_goals simp_all [tup]
theorem isAt_1 {l : List UInt8} {i : Nat} {c : UInt8} : isAt l i [c] = true ↔ l[i]? = some c := by
  unfold isAt
  by_cases hi : i < l.length
  · have : (l.drop i).take [c].length = [l[i]] := by rw [List.drop_eq_getElem_cons hi]; rfl
    rw [this]; simp [hi]
  · have : (l.drop i).take [c].length = [] := by rw [List.drop_eq_nil_of_le (by omega)]; rfl
    rw [this, List.getElem?_eq_none (by omega)]; simp
theorem isAt_len {l w : List UInt8} {i : Nat} (h : isAt l i w = true) (hw : 0 < w.length) : i + w.length ≤ l.length := by
  unfold isAt at h
  have := congrArg List.length (of_decide_eq_true h); simp at this; omega
theorem blanks4_runs {l : List UInt8} {i : Nat} {lo : Bool} (hl : l.length ≤ 900000) (hi : i ≤ l.length) : Runs X ⟨f, []⟩ 140 [sv l, .int .i64 i, .bool lo] h (.int .i64 (sk lo l i)) h := by
  refine Runs_of rfl f140_is ?_
  simp only [f140b, f140r0, f140r4]
  repeat' (first
 | refine za ?_ | refine zb ?_ | refine zc ?_ | refine zd ?_ | refine ze ?_ | refine zf ?_ | refine zg ?_ | refine zh ?_ | (refine zi ?_; try refine RgD_plain rfl ?_) | refine w_drawn rfl ?_ | refine zj ?_ | refine zl ?_
 | ((first | apply zs | (apply zt; (focus rfl)) | (apply zu; (focus rfl)) | (apply zv; (focus rfl)) | apply zx | apply zy | apply zB | apply zC | apply zD | apply zE | apply zF); (focus ((conv => lhs; simp (disch := omega) [-env0_get, bound, List.getElem?_cons_zero, List.getElem?_cons_succ, odt, odf, oip, oin, obt, obf, ont, onf, wrapI, owu, ow8, ow32, otd, oe0, oe1, oe2, oe3, oe4, oe5, oe6, otn, ot1, ot2, ot4]); first | done | rfl)); first | apply zk | (apply zn; (focus rfl); try (focus (first | rfl | (simp; done)))) | (apply zo; (focus rfl)) | apply gv_u | apply gv_tt | apply gv_ff | apply gv_ft | apply gv_tf | (apply gv_split <;> intro hc <;> try simp only [decide_eq_true_eq, decide_eq_false_iff_not, beq_iff_eq, beq_eq_false_iff_ne, bne_iff_ne, bne_eq_false_iff_eq, Bool.not_true, Bool.not_false, ne_eq] at hc))
 | (simp (disch := omega) only [thenQ_normal, thenQ_exit, thenQ_ret, blockQ_normal, blockQ_ret, blockQ_exit_same, blockQ_exit_ne]))
  refine w_loop (A := Nat) (fun j env h' => h' = h ∧ env 0 = sv l ∧ env 1 = .int .i64 j ∧ env 2 = .bool lo ∧ j ≤ l.length ∧ sk lo l j = sk lo l i) (fun j => l.length - j) (a0 := i) ⟨rfl, by simp, by simp, by simp, hi, rfl⟩ ?_
  rintro j env h' ⟨rfl, e0, e1, e2, hj, hs⟩
  simp only [f140l3, f140r1, f140r2]
  cases lo with
  | false =>
    rw [← hs, show sk false l j = j from rfl]
    repeat' (first
 | refine za ?_ | refine zb ?_ | refine zc ?_ | refine zd ?_ | refine ze ?_ | refine zf ?_ | refine zg ?_ | refine zh ?_ | (refine zi ?_; try refine RgD_plain rfl ?_) | refine w_drawn rfl ?_ | refine zj ?_ | refine zl ?_
 | ((first | apply zs | (apply zt; (focus rfl)) | (apply zu; (focus rfl)) | (apply zv; (focus rfl)) | apply zx | apply zy | apply zB | apply zC | apply zD | apply zE | apply zF); (focus ((conv => lhs; simp (disch := omega) [-env0_get, bound, List.getElem?_cons_zero, List.getElem?_cons_succ, odt, odf, oip, oin, obt, obf, ont, onf, wrapI, owu, ow8, ow32, otd, oe0, oe1, oe2, oe3, oe4, oe5, oe6, otn, ot1, ot2, ot4, e0, e1, e2]); first | done | rfl)); first | apply zk | (apply zn; (focus rfl); try (focus (first | rfl | (simp [e0, e1, e2]; done)))) | (apply zo; (focus rfl)) | apply gv_u | apply gv_tt | apply gv_ff | apply gv_ft | apply gv_tf | (apply gv_split <;> intro hc <;> try simp only [decide_eq_true_eq, decide_eq_false_iff_not, beq_iff_eq, beq_eq_false_iff_ne, bne_iff_ne, bne_eq_false_iff_eq, Bool.not_true, Bool.not_false, ne_eq] at hc))
 | (simp (disch := omega) only [thenQ_normal, thenQ_exit, thenQ_ret, blockQ_normal, blockQ_ret, blockQ_exit_same, blockQ_exit_ne]))
  | true =>
    cases hb : isAt l j [32] with
    | true =>
      have hj2 := isAt_len hb (by simp)
      have h32 := isAt_1.1 hb
      simp at hj2
      repeat' (first
 | refine za ?_ | refine zb ?_ | refine zc ?_ | refine zd ?_ | refine ze ?_ | refine zf ?_ | refine zg ?_ | refine zh ?_ | (refine zi ?_; try refine RgD_plain rfl ?_) | refine w_drawn rfl ?_ | refine zj ?_ | refine zl ?_
 | ((first | apply zs | (apply zt; (focus rfl)) | (apply zu; (focus rfl)) | (apply zv; (focus rfl)) | apply zw | apply zx | apply zy | apply zB | apply zC | apply zD | apply zE | apply zF); (focus ((conv => lhs; simp (disch := omega) [-env0_get, bound, List.getElem?_cons_zero, List.getElem?_cons_succ, odt, odf, oip, oin, obt, obf, ont, onf, wrapI, owu, ow8, ow32, otd, oe0, oe1, oe2, oe3, oe4, oe5, oe6, otn, ot1, ot2, ot4, e0, e1, e2, hb]); first | done | rfl)); first | apply zk | (apply zn; (focus rfl); try (focus (first | rfl | (simp [e0, e1, e2, hb]; done)))) | (apply zo; (focus rfl)) | apply gv_u | apply gv_tt | apply gv_ff | apply gv_ft | apply gv_tf | (apply gv_split <;> intro hc <;> try simp only [decide_eq_true_eq, decide_eq_false_iff_not, beq_iff_eq, beq_eq_false_iff_ne, bne_iff_ne, bne_eq_false_iff_eq, Bool.not_true, Bool.not_false, ne_eq] at hc) | exact (is4_runs hl hj (by simp)))
 | (simp (disch := omega) only [thenQ_normal, thenQ_exit, thenQ_ret, blockQ_normal, blockQ_ret, blockQ_exit_same, blockQ_exit_ne]))
      refine ⟨j + 1, ⟨by trivial, by simp [e0], by simp, by simp [e2], by omega, ?_⟩, by omega⟩
      rw [← hs]; simp only [sk, if_true]
      rw [skip_step l j (by omega), if_pos]
      simpa [show j < l.length by omega] using h32
    | false =>
      have hsk : sk true l j = j := by
        simp only [sk, if_true]
        by_cases hlt : j < l.length
        · rw [skip_step l j hlt, if_neg]
          intro q
          have : isAt l j [32] = true := isAt_1.2 (by simp [hlt, q])
          rw [hb] at this; cases this
        · exact skip_end l j (by omega)
      rw [← hs, hsk]
      repeat' (first
 | refine za ?_ | refine zb ?_ | refine zc ?_ | refine zd ?_ | refine ze ?_ | refine zf ?_ | refine zg ?_ | refine zh ?_ | (refine zi ?_; try refine RgD_plain rfl ?_) | refine w_drawn rfl ?_ | refine zj ?_ | refine zl ?_
 | ((first | apply zs | (apply zt; (focus rfl)) | (apply zu; (focus rfl)) | (apply zv; (focus rfl)) | apply zw | apply zx | apply zy | apply zB | apply zC | apply zD | apply zE | apply zF); (focus ((conv => lhs; simp (disch := omega) [-env0_get, bound, List.getElem?_cons_zero, List.getElem?_cons_succ, odt, odf, oip, oin, obt, obf, ont, onf, wrapI, owu, ow8, ow32, otd, oe0, oe1, oe2, oe3, oe4, oe5, oe6, otn, ot1, ot2, ot4, e0, e1, e2, hb]); first | done | rfl)); first | apply zk | (apply zn; (focus rfl); try (focus (first | rfl | (simp [e0, e1, e2, hb]; done)))) | (apply zo; (focus rfl)) | apply gv_u | apply gv_tt | apply gv_ff | apply gv_ft | apply gv_tf | (apply gv_split <;> intro hc <;> try simp only [decide_eq_true_eq, decide_eq_false_iff_not, beq_iff_eq, beq_eq_false_iff_ne, bne_iff_ne, bne_eq_false_iff_eq, Bool.not_true, Bool.not_false, ne_eq] at hc) | exact (is4_runs hl hj (by simp)))
 | (simp (disch := omega) only [thenQ_normal, thenQ_exit, thenQ_ret, blockQ_normal, blockQ_ret, blockQ_exit_same, blockQ_exit_ne]))
theorem plainR_len {l : List UInt8} : (plainR l).2 ≤ l.length := by
  unfold plainR
  split
  · unfold cutR
    cases hq : longest parseC l (min 20 l.length) with
    | none => simp
    | some x => obtain ⟨a, b⟩ := x; have := (longest_inv hq).2.1; simp; omega
  · simp
theorem end4_runs {l w : List UInt8} {i : Nat} {lo : Bool} (hl : l.length ≤ 900000) (hi : i ≤ l.length) (hw : w.length = 4) : Runs X ⟨f, []⟩ 141 [sv l, .int .i64 i, sv w, .bool lo] h
    (.tuple #[.agg #[.int .i64 (endN lo l i w).1.1, .int .i64 (endN lo l i w).1.2], .int .i64 (match (endN lo l i w).2 with | some j => (j : Int) | none => -1)]) h := by
  refine Runs_of rfl f141_is ?_
  simp only [f141r0, f141r1, f141r2, f141r3, f141r4, f141r5, f141r6, f141r7, f141r8, f141r9, f141r10, f141r11, f141b]
  unfold endN
  cases hb : isAt l i w with
  | true =>
    simp only [if_true]
    repeat' (first
 | refine za ?_ | refine zb ?_ | refine zc ?_ | refine zd ?_ | refine ze ?_ | refine zf ?_ | refine zg ?_ | refine zh ?_ | (refine zi ?_; try refine RgD_plain rfl ?_) | refine w_drawn rfl ?_ | refine zj ?_ | refine zl ?_
 | ((first | apply zs | (apply zt; (focus rfl)) | (apply zu; (focus rfl)) | (apply zv; (focus rfl)) | apply zw | apply zx | apply zy | apply zB | apply zC | apply zD | apply zE | apply zF); (focus ((conv => lhs; simp (disch := omega) [-env0_get, bound, List.getElem?_cons_zero, List.getElem?_cons_succ, odt, odf, oip, oin, obt, obf, ont, onf, wrapI, owu, ow8, ow32, otd, oe0, oe1, oe2, oe3, oe4, oe5, oe6, otn, ot1, ot2, ot4, hb]); first | done | rfl)); first | apply zk | (apply zn; (focus rfl); try (focus (first | rfl | (simp [hb]; done)))) | (apply zo; (focus rfl)) | apply gv_u | apply gv_tt | apply gv_ff | apply gv_ft | apply gv_tf | (apply gv_split <;> intro hc <;> try simp only [decide_eq_true_eq, decide_eq_false_iff_not, beq_iff_eq, beq_eq_false_iff_ne, bne_iff_ne, bne_eq_false_iff_eq, Bool.not_true, Bool.not_false, ne_eq] at hc) | exact (is4_runs hl hi (by omega)))
 | (simp (disch := omega) only [thenQ_normal, thenQ_exit, thenQ_ret, blockQ_normal, blockQ_ret, blockQ_exit_same, blockQ_exit_ne]))
    all_goals simp_all [tup]
  | false =>
    simp only [Bool.false_eq_true, if_false]
    cases lo with
    | true =>
      simp only [if_true]
      have hln := sat_len (l := l.drop i)
      simp at hln
      by_cases hz : (satRead (l.drop i)).2 = 0
      · rw [if_pos hz]
        repeat' (first
 | refine za ?_ | refine zb ?_ | refine zc ?_ | refine zd ?_ | refine ze ?_ | refine zf ?_ | refine zg ?_ | refine zh ?_ | (refine zi ?_; try refine RgD_plain rfl ?_) | refine w_drawn rfl ?_ | refine zj ?_ | refine zl ?_
 | ((first | apply zs | (apply zt; (focus rfl)) | (apply zu; (focus rfl)) | (apply zv; (focus rfl)) | apply zw | apply zx | apply zy | apply zB | apply zC | apply zD | apply zE | apply zF); (focus ((conv => lhs; simp (disch := omega) [-env0_get, bound, List.getElem?_cons_zero, List.getElem?_cons_succ, odt, odf, oip, oin, obt, obf, ont, onf, wrapI, owu, ow8, ow32, otd, oe0, oe1, oe2, oe3, oe4, oe5, oe6, otn, ot1, ot2, ot4, hb]); first | done | rfl)); first | apply zk | (apply zn; (focus rfl); try (focus (first | rfl | (simp [hb]; done)))) | (apply zo; (focus rfl)) | apply gv_u | apply gv_tt | apply gv_ff | apply gv_ft | apply gv_tf | (apply gv_split <;> intro hc <;> try simp only [decide_eq_true_eq, decide_eq_false_iff_not, beq_iff_eq, beq_eq_false_iff_ne, bne_iff_ne, bne_eq_false_iff_eq, Bool.not_true, Bool.not_false, ne_eq] at hc) | exact (is4_runs hl hi (by omega)) | exact (refRead_runs (by simp; omega)))
 | (simp (disch := omega) only [thenQ_normal, thenQ_exit, thenQ_ret, blockQ_normal, blockQ_ret, blockQ_exit_same, blockQ_exit_ne]))
      · rw [if_neg hz]
        repeat' (first
 | refine za ?_ | refine zb ?_ | refine zc ?_ | refine zd ?_ | refine ze ?_ | refine zf ?_ | refine zg ?_ | refine zh ?_ | (refine zi ?_; try refine RgD_plain rfl ?_) | refine w_drawn rfl ?_ | refine zj ?_ | refine zl ?_
 | ((first | apply zs | (apply zt; (focus rfl)) | (apply zu; (focus rfl)) | (apply zv; (focus rfl)) | apply zw | apply zx | apply zy | apply zB | apply zC | apply zD | apply zE | apply zF); (focus ((conv => lhs; simp (disch := omega) [-env0_get, bound, List.getElem?_cons_zero, List.getElem?_cons_succ, odt, odf, oip, oin, obt, obf, ont, onf, wrapI, owu, ow8, ow32, otd, oe0, oe1, oe2, oe3, oe4, oe5, oe6, otn, ot1, ot2, ot4, hb]); first | done | rfl)); first | apply zk | (apply zn; (focus rfl); try (focus (first | rfl | (simp [hb]; done)))) | (apply zo; (focus rfl)) | apply gv_u | apply gv_tt | apply gv_ff | apply gv_ft | apply gv_tf | (apply gv_split <;> intro hc <;> try simp only [decide_eq_true_eq, decide_eq_false_iff_not, beq_iff_eq, beq_eq_false_iff_ne, bne_iff_ne, bne_eq_false_iff_eq, Bool.not_true, Bool.not_false, ne_eq] at hc) | exact (is4_runs hl hi (by omega)) | exact (refRead_runs (by simp; omega)))
 | (simp (disch := omega) only [thenQ_normal, thenQ_exit, thenQ_ret, blockQ_normal, blockQ_ret, blockQ_exit_same, blockQ_exit_ne]))
        all_goals simp_all [tup]
    | false =>
      simp only [Bool.false_eq_true, if_false]
      have hln := plainR_len (l := l.drop i)
      simp at hln
      unfold plainR at hln ⊢
      by_cases hc : (cutR (l.drop i)).1.1 = 0
      · rw [if_pos hc] at hln ⊢
        have hc' : ((cutR (l.drop i)).1.1 != 0) = false := by simp [hc]
        by_cases hz : (cutR (l.drop i)).2 = 0
        · rw [if_pos hz]
          repeat' (first
 | refine za ?_ | refine zb ?_ | refine zc ?_ | refine zd ?_ | refine ze ?_ | refine zf ?_ | refine zg ?_ | refine zh ?_ | (refine zi ?_; try refine RgD_plain rfl ?_) | refine w_drawn rfl ?_ | refine zj ?_ | refine zl ?_
 | ((first | apply zs | (apply zt; (focus rfl)) | (apply zu; (focus rfl)) | (apply zv; (focus rfl)) | apply zw | apply zx | apply zy | apply zB | apply zC | apply zD | apply zE | apply zF); (focus ((conv => lhs; simp (disch := omega) [-env0_get, bound, List.getElem?_cons_zero, List.getElem?_cons_succ, odt, odf, oip, oin, obt, obf, ont, onf, wrapI, owu, ow8, ow32, otd, oe0, oe1, oe2, oe3, oe4, oe5, oe6, otn, ot1, ot2, ot4, hb, hc']); first | done | rfl)); first | apply zk | (apply zn; (focus rfl); try (focus (first | rfl | (simp [hb, hc']; done)))) | (apply zo; (focus rfl)) | apply gv_u | apply gv_tt | apply gv_ff | apply gv_ft | apply gv_tf | (apply gv_split <;> intro hc <;> try simp only [decide_eq_true_eq, decide_eq_false_iff_not, beq_iff_eq, beq_eq_false_iff_ne, bne_iff_ne, bne_eq_false_iff_eq, Bool.not_true, Bool.not_false, ne_eq] at hc) | exact (is4_runs hl hi (by omega)) | exact (cutRead2_runs (by simp; omega)))
 | (simp (disch := omega) only [thenQ_normal, thenQ_exit, thenQ_ret, blockQ_normal, blockQ_ret, blockQ_exit_same, blockQ_exit_ne]))
        · rw [if_neg hz]
          repeat' (first
 | refine za ?_ | refine zb ?_ | refine zc ?_ | refine zd ?_ | refine ze ?_ | refine zf ?_ | refine zg ?_ | refine zh ?_ | (refine zi ?_; try refine RgD_plain rfl ?_) | refine w_drawn rfl ?_ | refine zj ?_ | refine zl ?_
 | ((first | apply zs | (apply zt; (focus rfl)) | (apply zu; (focus rfl)) | (apply zv; (focus rfl)) | apply zw | apply zx | apply zy | apply zB | apply zC | apply zD | apply zE | apply zF); (focus ((conv => lhs; simp (disch := omega) [-env0_get, bound, List.getElem?_cons_zero, List.getElem?_cons_succ, odt, odf, oip, oin, obt, obf, ont, onf, wrapI, owu, ow8, ow32, otd, oe0, oe1, oe2, oe3, oe4, oe5, oe6, otn, ot1, ot2, ot4, hb, hc']); first | done | rfl)); first | apply zk | (apply zn; (focus rfl); try (focus (first | rfl | (simp [hb, hc']; done)))) | (apply zo; (focus rfl)) | apply gv_u | apply gv_tt | apply gv_ff | apply gv_ft | apply gv_tf | (apply gv_split <;> intro hc <;> try simp only [decide_eq_true_eq, decide_eq_false_iff_not, beq_iff_eq, beq_eq_false_iff_ne, bne_iff_ne, bne_eq_false_iff_eq, Bool.not_true, Bool.not_false, ne_eq] at hc) | exact (is4_runs hl hi (by omega)) | exact (cutRead2_runs (by simp; omega)))
 | (simp (disch := omega) only [thenQ_normal, thenQ_exit, thenQ_ret, blockQ_normal, blockQ_ret, blockQ_exit_same, blockQ_exit_ne]))
          all_goals simp_all [tup]
      · rw [if_neg hc, if_pos rfl]
        have hc' : ((cutR (l.drop i)).1.1 != 0) = true := by simp [hc]
        repeat' (first
 | refine za ?_ | refine zb ?_ | refine zc ?_ | refine zd ?_ | refine ze ?_ | refine zf ?_ | refine zg ?_ | refine zh ?_ | (refine zi ?_; try refine RgD_plain rfl ?_) | refine w_drawn rfl ?_ | refine zj ?_ | refine zl ?_
 | ((first | apply zs | (apply zt; (focus rfl)) | (apply zu; (focus rfl)) | (apply zv; (focus rfl)) | apply zw | apply zx | apply zy | apply zB | apply zC | apply zD | apply zE | apply zF); (focus ((conv => lhs; simp (disch := omega) [-env0_get, bound, List.getElem?_cons_zero, List.getElem?_cons_succ, odt, odf, oip, oin, obt, obf, ont, onf, wrapI, owu, ow8, ow32, otd, oe0, oe1, oe2, oe3, oe4, oe5, oe6, otn, ot1, ot2, ot4, hb, hc']); first | done | rfl)); first | apply zk | (apply zn; (focus rfl); try (focus (first | rfl | (simp [hb, hc']; done)))) | (apply zo; (focus rfl)) | apply gv_u | apply gv_tt | apply gv_ff | apply gv_ft | apply gv_tf | (apply gv_split <;> intro hc <;> try simp only [decide_eq_true_eq, decide_eq_false_iff_not, beq_iff_eq, beq_eq_false_iff_ne, bne_iff_ne, bne_eq_false_iff_eq, Bool.not_true, Bool.not_false, ne_eq] at hc) | exact (is4_runs hl hi (by omega)) | exact (cutRead2_runs (by simp; omega)))
 | (simp (disch := omega) only [thenQ_normal, thenQ_exit, thenQ_ret, blockQ_normal, blockQ_ret, blockQ_exit_same, blockQ_exit_ne]))
end Go.Proofs.Ytlgbeekhaoiggaa
end

section
namespace Go.Proofs.Ytlgbeekhaoiggaa
open Go.AM
set_option maxHeartbeats 4000000
variable {f : Nat} {h : Heap}
abbrev I64 (n : Int) : Prop := -9223372036854775808 ≤ n ∧ n ≤ 9223372036854775807
theorem parseN_rng {l : List UInt8} {n : Int} (h : parseN l = some n) : I64 n := by
  unfold parseN at h
  split at h
  · split at h
    · rename_i hd; have := hd.2.2.2; simp [most] at this; cases h; exact ⟨by omega, by omega⟩
    · cases h
  · split at h
    · rename_i hd; have := hd.2.2.2; simp [most] at this; cases h; exact ⟨by omega, by omega⟩
    · cases h
theorem satRead_rng {l : List UInt8} : I64 (satRead l).1 := by
  have hs := satRead_longest l
  by_cases hz : (satRead l).2 = 0
  · rw [satRead_zero hz]; exact ⟨by omega, by omega⟩
  · rw [if_neg hz] at hs
    exact parseN_rng (longest_inv hs).2.2.1
theorem cutR_rng {l : List UInt8} : I64 (cutR l).1.2 := by
  unfold cutR
  cases hq : longest parseC l (min 20 l.length) with
  | none => exact ⟨by simp, by simp⟩
  | some x =>
    obtain ⟨⟨a, b⟩, k⟩ := x
    have hp := (longest_inv hq).2.2.1
    simp only [Option.getD_some]
    unfold parseC at hp
    split at hp
    · cases hp; exact ⟨by omega, by omega⟩
    · split at hp
      · cases hp; exact ⟨by omega, by omega⟩
      · split at hp
        · rename_i n hn
          split at hp
          · cases hp
          · cases hp; exact parseN_rng hn
        · cases hp
theorem plainR_rng {l : List UInt8} : I64 (plainR l).1 := by
  unfold plainR; split
  · exact cutR_rng
  · exact ⟨by simp, by simp⟩
theorem sk_le {lo : Bool} {l : List UInt8} {i : Nat} (hi : i ≤ l.length) : sk lo l i ≤ l.length := by
  unfold sk; split
  · exact skip_le l i hi
  · exact hi
theorem endN_ok {lo : Bool} {l w : List UInt8} {i : Nat} (hi : i ≤ l.length) (hw : w.length = 4) : ((endN lo l i w).1.1 = 0 ∨ (endN lo l i w).1.1 = 1) ∧ I64 (endN lo l i w).1.2 ∧ ∀ j, (endN lo l i w).2 = some j → j ≤ l.length := by
  unfold endN
  have h1 := satRead_rng (l := l.drop i)
  have h2 := plainR_rng (l := l.drop i)
  have h3 := sat_len (l := l.drop i)
  have h4 := plainR_len (l := l.drop i)
  simp at h3 h4
  by_cases ha : isAt l i w = true
  · rw [if_pos ha]
    have := isAt_len ha (by omega)
    exact ⟨.inl rfl, ⟨by simp, by simp⟩, fun j hj => by cases hj; omega⟩
  · rw [if_neg ha]
    by_cases hz : (if lo then satRead (l.drop i) else plainR (l.drop i)).2 = 0
    · rw [if_pos hz]; exact ⟨.inl rfl, ⟨by simp, by simp⟩, fun j hj => by cases hj⟩
    · rw [if_neg hz]
      refine ⟨.inr rfl, ?_, fun j hj => ?_⟩
      · cases lo
        · exact h2
        · exact h1
      · cases hj
        cases lo
        · simp only [Bool.false_eq_true, if_false]; omega
        · simp only [if_true]; omega
abbrev tri (x : Sp × Nat × Int) : Value := .tuple #[spV x.1, .int .i64 x.2.1, .int .i64 x.2.2]
def z4 : AObj := .cells [.int .i64 0, .int .i64 0, .int .i64 0, .int .i64 0] 46
def bO (a : Int × Int) : AObj := .cells [.int .i64 a.1, .int .i64 a.2] 148
theorem read4_runs {l : List UInt8} {lo : Bool} (hl : l.length ≤ 900000) : Runs X ⟨f, []⟩ 113 [sv l, .bool lo] h (tri (readN lo l)) h := by
  refine Runs_of rfl f113_is ?_
  simp only [f113b]
  generalize hC5 : (ACode.seq (ACode.reg f113r27) _) = C5
  generalize hC4 : (ACode.seq (ACode.seq (ACode.reg f113r23) _) _) = C4
  generalize hC3 : (ACode.seq (ACode.seq (ACode.reg f113r19) _) _) = C3
  generalize hC2 : (ACode.seq (ACode.seq (ACode.reg f113r14) _) _) = C2
  generalize hC1 : (ACode.seq (ACode.seq (ACode.reg f113r9) _) _) = C1
  simp only [f113r0, f113r1, f113r2, f113r3, f113r4, f113r5, f113r6, f113r7, f113r8]
  by_cases hb : isAt l 0 [40] = false ∧ isAt l 0 [91] = false
  · obtain ⟨h40, h91⟩ := hb
    have e : readN lo l = badN 0 := by unfold readN; rw [if_pos ⟨h40, h91⟩]
    rw [e]
    repeat' (first
 | refine za ?_ | refine zb ?_ | refine zc ?_ | refine zd ?_ | refine ze ?_ | refine zf ?_ | refine zg ?_ | refine zh ?_ | (refine zi ?_; try refine RgD_plain rfl ?_) | refine w_drawn rfl ?_ | refine zj ?_ | refine zl ?_
 | ((first | apply zs | (apply zt; (focus rfl)) | (apply zu; (focus rfl)) | (apply zv; (focus rfl)) | apply zw | apply zx | apply zy | apply zB | apply zC | apply zD | apply zE | apply zF); (focus ((conv => lhs; simp (disch := omega) [-env0_get, bound, List.getElem?_cons_zero, List.getElem?_cons_succ, odt, odf, oip, oin, obt, obf, ont, onf, wrapI, owu, ow8, ow32, otd, oe0, oe1, oe2, oe3, oe4, oe5, oe6, otn, ot1, ot2, ot4, h40, h91]); first | done | rfl)); first | apply zk | (apply zn; (focus rfl); try (focus (first | rfl | (simp [h40, h91]; done)))) | (apply zo; (focus rfl)) | apply gv_u | apply gv_tt | apply gv_ff | apply gv_ft | apply gv_tf | (apply gv_split <;> intro hc <;> try simp only [decide_eq_true_eq, decide_eq_false_iff_not, beq_iff_eq, beq_eq_false_iff_ne, bne_iff_ne, bne_eq_false_iff_eq, Bool.not_true, Bool.not_false, ne_eq] at hc) | exact (is4_runs (i := 0) hl (by omega) (by simp)))
 | (simp (disch := omega) only [thenQ_normal, thenQ_exit, thenQ_ret, blockQ_normal, blockQ_ret, blockQ_exit_same, blockQ_exit_ne]))
  have h1l : 1 ≤ l.length := by
    apply Classical.byContradiction; intro q
    refine hb ⟨?_, ?_⟩
    · cases hq : isAt l 0 [40]; rfl; have := isAt_len hq (by simp); simp at this; omega
    · cases hq : isAt l 0 [91]; rfl; have := isAt_len hq (by simp); simp at this; omega
  have h91 : isAt l 0 [40] = false → isAt l 0 [91] = true := fun q => by cases hq : isAt l 0 [91]; exact absurd ⟨q, hq⟩ hb; rfl
  have eN : readN lo l = readA lo l (isAt l 0 [40]) (sk lo l 1) := by unfold readN; rw [if_neg hb]
  have hi := sk_le (lo := lo) h1l
  generalize hR : readN lo l = R at eN ⊢
  obtain ⟨i, hsi⟩ : ∃ i, sk lo l 1 = i := ⟨_, rfl⟩
  obtain ⟨op, hop⟩ : ∃ op, isAt l 0 [40] = op := ⟨_, rfl⟩
  rw [hsi] at hi eN
  rw [hop] at h91 eN
  have hE := endN_ok (lo := lo) (w := minf) hi rfl
  rcases hEq : endN lo l i minf with ⟨⟨k, a⟩, nx⟩
  rw [hEq] at hE
  simp only at hE
  obtain ⟨hk, hka, hnx⟩ := hE
  have c1 : (endN lo l i minf).1.1 = k := by rw [hEq]
  have c2 : (endN lo l i minf).1.2 = a := by rw [hEq]
  have c3 : (endN lo l i minf).2 = nx := by rw [hEq]
  have hm : isAt l i [45, 105, 110, 102] = isAt l i minf := rfl
  have hm : isAt l i [45, 105, 110, 102] = isAt l i minf := rfl
  obtain ⟨m, hmm⟩ : ∃ m, isAt l i minf = m := ⟨_, rfl⟩
  rw [hmm] at hm
  -- the first end
  by_cases hA : (lo = false ∧ op ≠ m) ∨ nx = none
  · have e : R = badN i := by
      rw [eN]; unfold readA
      by_cases hA1 : lo = false ∧ op ≠ isAt l i minf
      · rw [if_pos hA1]
      · rw [if_neg hA1, c3]
        rcases hA with q | rfl
        · rw [hmm] at hA1; exact absurd q hA1
        · rfl
    rw [e, ← hC1]
    simp only [f113r9, f113r10]
    cases op with
    | true =>
      cases m <;> cases lo <;> cases nx
      all_goals try (exfalso; simp at hA; done)
      all_goals (repeat' (first
 | refine za ?_ | refine zb ?_ | refine zc ?_ | refine zd ?_ | refine ze ?_ | refine zf ?_ | refine zg ?_ | refine zh ?_ | (refine zi ?_; try refine RgD_plain rfl ?_) | refine w_drawn rfl ?_ | refine zj ?_ | refine zl ?_
 | ((first | apply zs | (apply zt; (focus rfl)) | (apply zu; (focus rfl)) | (apply zv; (focus rfl)) | apply zw | apply zx | apply zy | apply zB | apply zC | apply zD | apply zE | apply zF); (focus ((conv => lhs; simp (disch := omega) [-env0_get, bound, List.getElem?_cons_zero, List.getElem?_cons_succ, odt, odf, oip, oin, obt, obf, ont, onf, wrapI, owu, ow8, ow32, otd, oe0, oe1, oe2, oe3, oe4, oe5, oe6, otn, ot1, ot2, ot4, hsi, hop, hmm, hm, c1, c2, c3]); first | done | rfl)); first | apply zk | (apply zn; (focus rfl); try (focus (first | rfl | (simp [hsi, hop, hmm, hm, c1, c2, c3]; done)))) | (apply zo; (focus rfl)) | apply gv_u | apply gv_tt | apply gv_ff | apply gv_ft | apply gv_tf | (apply gv_split <;> intro hc <;> try simp only [decide_eq_true_eq, decide_eq_false_iff_not, beq_iff_eq, beq_eq_false_iff_ne, bne_iff_ne, bne_eq_false_iff_eq, Bool.not_true, Bool.not_false, ne_eq] at hc) | exact (is4_runs (i := 0) hl (by omega) (by simp)) | exact (blanks4_runs (i := 1) hl h1l) | exact (end4_runs (w := minf) hl hi rfl) | exact (is4_runs (w := minf) hl hi (by simp [minf])))
 | (simp (disch := omega) only [thenQ_normal, thenQ_exit, thenQ_ret, blockQ_normal, blockQ_ret, blockQ_exit_same, blockQ_exit_ne])))
    | false =>
      have h9 := h91 rfl
      cases m <;> cases lo <;> cases nx
      all_goals try (exfalso; simp at hA; done)
      all_goals (repeat' (first
 | refine za ?_ | refine zb ?_ | refine zc ?_ | refine zd ?_ | refine ze ?_ | refine zf ?_ | refine zg ?_ | refine zh ?_ | (refine zi ?_; try refine RgD_plain rfl ?_) | refine w_drawn rfl ?_ | refine zj ?_ | refine zl ?_
 | ((first | apply zs | (apply zt; (focus rfl)) | (apply zu; (focus rfl)) | (apply zv; (focus rfl)) | apply zw | apply zx | apply zy | apply zB | apply zC | apply zD | apply zE | apply zF); (focus ((conv => lhs; simp (disch := omega) [-env0_get, bound, List.getElem?_cons_zero, List.getElem?_cons_succ, odt, odf, oip, oin, obt, obf, ont, onf, wrapI, owu, ow8, ow32, otd, oe0, oe1, oe2, oe3, oe4, oe5, oe6, otn, ot1, ot2, ot4, hsi, hop, h9, hmm, hm, c1, c2, c3]); first | done | rfl)); first | apply zk | (apply zn; (focus rfl); try (focus (first | rfl | (simp [hsi, hop, h9, hmm, hm, c1, c2, c3]; done)))) | (apply zo; (focus rfl)) | apply gv_u | apply gv_tt | apply gv_ff | apply gv_ft | apply gv_tf | (apply gv_split <;> intro hc <;> try simp only [decide_eq_true_eq, decide_eq_false_iff_not, beq_iff_eq, beq_eq_false_iff_ne, bne_iff_ne, bne_eq_false_iff_eq, Bool.not_true, Bool.not_false, ne_eq] at hc) | exact (is4_runs (i := 0) hl (by omega) (by simp)) | exact (blanks4_runs (i := 1) hl h1l) | exact (end4_runs (w := minf) hl hi rfl) | exact (is4_runs (w := minf) hl hi (by simp [minf])))
 | (simp (disch := omega) only [thenQ_normal, thenQ_exit, thenQ_ret, blockQ_normal, blockQ_ret, blockQ_exit_same, blockQ_exit_ne])))
  obtain ⟨j, rfl⟩ : ∃ j, nx = some j := by cases nx with | none => exact absurd (.inr rfl) hA | some j => exact ⟨j, rfl⟩
  have hj := hnx j rfl
  have hA1 : ¬ (lo = false ∧ op ≠ isAt l i minf) := fun q => hA (.inl (by rw [hmm] at q; exact q))
  have eB : R = readB lo l (if k = 1 ∧ op = false then (2, a) else (k, a)) (sk lo l j) := by
    rw [eN]; unfold readA; rw [if_neg hA1, c3, c1, c2]
    by_cases q : k = 1 ∧ op = false
    · rw [if_pos q, if_pos q]
    · rw [if_neg q, if_neg q, hEq]
  have hA2 : lo = true ∨ op = m := by
    cases lo with
    | true => exact .inl rfl
    | false => exact .inr (Classical.byContradiction fun q => hA (.inl ⟨rfl, q⟩))
  have h9 : op = false → isAt l 0 [91] = true := h91
  apply mergeOk (X := X) (κ := ⟨h.size, []⟩) (c := C1) (fun env h' => h' = ((h.push z4).push z4).push (bO (k, a)) ∧ env 0 = sv l ∧ env 1 = .bool lo ∧ env 4 = .pointer (some ⟨h.size, 0, none⟩) ∧ env 7 = .pointer (some ⟨h.size + 1, 0, none⟩) ∧ env 8 = .bool op ∧ env 10 = .pointer (some ⟨h.size + 2, 0, none⟩) ∧ env 11 = .int .i64 (j : Nat))
  case g =>
    intro key
    rcases Bool.eq_false_or_eq_true m with hm1 | hm1 <;> rcases Bool.eq_false_or_eq_true lo with hl1 | hl1 <;> rcases Bool.eq_false_or_eq_true op with ho | ho
    all_goals try (exfalso; simp [hm1, hl1, ho] at hA2; done)
    all_goals have h9' : ¬ op = true → isAt l 0 [91] = true := fun q => h9 (by simpa using q)
    all_goals simp only [ho, Bool.false_eq_true, not_false_eq_true, true_implies, not_true_eq_false, false_implies] at h9'
    all_goals (have hs2 := hsi; have d1 := c1; have d2 := c2; have d3 := c3; rw [hl1] at hs2 d1 d2 d3)
    all_goals (repeat' (first
 | refine za ?_ | refine zb ?_ | refine zc ?_ | refine zd ?_ | refine ze ?_ | refine zf ?_ | refine zg ?_ | refine zh ?_ | (refine zi ?_; try refine RgD_plain rfl ?_) | refine w_drawn rfl ?_ | refine zj ?_ | refine zl ?_
 | ((first | apply zs | (apply zt; (focus rfl)) | (apply zu; (focus rfl)) | (apply zv; (focus rfl)) | apply zw | apply zx | apply zy | apply zB | apply zC | apply zD | apply zE | apply zF); (focus ((conv => lhs; simp (disch := omega) [-env0_get, bound, List.getElem?_cons_zero, List.getElem?_cons_succ, odt, odf, oip, oin, obt, obf, ont, onf, wrapI, owu, ow8, ow32, otd, oe0, oe1, oe2, oe3, oe4, oe5, oe6, otn, ot1, ot2, ot4, hs2, hop, h9', hmm, hm, d1, d2, d3, hm1, hl1, ho]); first | done | rfl)); first | apply zk | (apply zn; (focus rfl); try (focus (first | rfl | (simp [hs2, hop, h9', hmm, hm, d1, d2, d3, hm1, hl1, ho]; done)))) | (apply zo; (focus rfl)) | apply gv_u | apply gv_tt | apply gv_ff | apply gv_ft | apply gv_tf | (apply gv_split <;> intro hc <;> try simp only [decide_eq_true_eq, decide_eq_false_iff_not, beq_iff_eq, beq_eq_false_iff_ne, bne_iff_ne, bne_eq_false_iff_eq, Bool.not_true, Bool.not_false, ne_eq] at hc) | exact (is4_runs (i := 0) hl (by omega) (by simp)) | exact (blanks4_runs (i := 1) hl h1l) | exact (end4_runs (w := minf) hl hi rfl) | exact (is4_runs (w := minf) hl hi (by simp [minf])))
 | (simp (disch := omega) only [thenQ_normal, thenQ_exit, thenQ_ret, blockQ_normal, blockQ_ret, blockQ_exit_same, blockQ_exit_ne])))
    all_goals refine key _ _ ?_
    all_goals exact ⟨rfl, by simp, by simp [hl1], by simp, by simp, by simp [ho], by simp, by simp⟩
  rintro env _ ⟨rfl, e0, e1, e4, e7, e8, e10, e11⟩
  have hi2 := sk_le (lo := lo) hj
  generalize hsj : sk lo l j = i2 at eB hi2
  apply mergeOk (X := X) (κ := ⟨h.size, []⟩) (c := C2) (fun env h' => h' = ((h.push z4).push z4).push (bO (if k = 1 ∧ op = false then (2, a) else (k, a))) ∧ env 0 = sv l ∧ env 1 = .bool lo ∧ env 4 = .pointer (some ⟨h.size, 0, none⟩) ∧ env 7 = .pointer (some ⟨h.size + 1, 0, none⟩) ∧ env 10 = .pointer (some ⟨h.size + 2, 0, none⟩) ∧ env 9 = .int .i64 (i2 : Nat))
  case g =>
    intro key
    rw [← hC1]
    simp only [f113r9, f113r10, f113r11, f113r12, f113r13]
    rcases hk with hk | hk <;> rcases Bool.eq_false_or_eq_true op with ho | ho
    all_goals (repeat' (first
 | refine za ?_ | refine zb ?_ | refine zc ?_ | refine zd ?_ | refine ze ?_ | refine zf ?_ | refine zg ?_ | refine zh ?_ | (refine zi ?_; try refine RgD_plain rfl ?_) | refine w_drawn rfl ?_ | refine zj ?_ | refine zl ?_
 | ((first | apply zs | (apply zt; (focus rfl)) | (apply zu; (focus rfl)) | (apply zv; (focus rfl)) | apply zw | apply zx | apply zy | apply zB | apply zC | apply zD | apply zE | apply zF); (focus ((conv => lhs; simp (disch := omega) [-env0_get, bound, List.getElem?_cons_zero, List.getElem?_cons_succ, odt, odf, oip, oin, obt, obf, ont, onf, wrapI, owu, ow8, ow32, otd, oe0, oe1, oe2, oe3, oe4, oe5, oe6, otn, ot1, ot2, ot4, e0, e1, e4, e7, e8, e10, e11, z4, bO, hsj, hk, ho]); first | done | rfl)); first | apply zk | (apply zn; (focus rfl); try (focus (first | rfl | (simp [e0, e1, e4, e7, e8, e10, e11, z4, bO, hsj, hk, ho]; done)))) | (apply zo; (focus rfl)) | apply gv_u | apply gv_tt | apply gv_ff | apply gv_ft | apply gv_tf | (apply gv_split <;> intro hc <;> try simp only [decide_eq_true_eq, decide_eq_false_iff_not, beq_iff_eq, beq_eq_false_iff_ne, bne_iff_ne, bne_eq_false_iff_eq, Bool.not_true, Bool.not_false, ne_eq] at hc) | exact (blanks4_runs hl hj))
 | (simp (disch := omega) only [thenQ_normal, thenQ_exit, thenQ_ret, blockQ_normal, blockQ_ret, blockQ_exit_same, blockQ_exit_ne])))
    all_goals refine key _ _ ?_
    all_goals exact ⟨by simp [z4, bO, hk, ho], by simp [e0], by simp [e1], by simp [e4], by simp [e7], by simp [e10], by simp⟩
  clear e0 e1 e4 e7 e8 e10 e11
  generalize hlow : (if k = 1 ∧ op = false then ((2 : Int), a) else (k, a)) = low at eB
  have hlowk : 0 ≤ low.1 ∧ low.1 ≤ 2 := by
    rw [← hlow]; split
    · exact ⟨by simp, by simp⟩
    · rcases hk with q | q <;> rw [q] <;> exact ⟨by simp, by simp⟩
  have hlowa : I64 low.2 := by rw [← hlow]; split <;> exact hka
  clear hlow hA hA1 hA2 h9 hm hmm c1 c2 c3 hEq hnx eN hk hka hop h91
  rintro env _ ⟨rfl, e0, e1, e4, e7, e10, e9⟩
  rw [← hC2]
  simp only [f113r14, f113r15, f113r16, f113r17, f113r18]
  by_cases h44 : isAt l i2 [44] = true
  · have h44l := isAt_len h44 (by simp)
    simp at h44l
    have eC : R = readC lo l low (sk lo l (i2 + 1)) := by rw [eB]; unfold readB; rw [if_pos h44]
    have hi3 := sk_le (lo := lo) (l := l) (i := i2 + 1) (by omega)
    have hs3 : ∃ i3, sk lo l (i2 + 1) = i3 := ⟨_, rfl⟩
    obtain ⟨i3, hs3⟩ := hs3
    rw [hs3] at eC hi3
    have hE := endN_ok (lo := lo) (w := pinf) hi3 rfl
    rcases hEq : endN lo l i3 pinf with ⟨⟨k, a⟩, nx⟩
    rw [hEq] at hE
    simp only at hE
    obtain ⟨hk, hka, hnx⟩ := hE
    have c1 : (endN lo l i3 pinf).1.1 = k := by rw [hEq]
    have c2 : (endN lo l i3 pinf).1.2 = a := by rw [hEq]
    have c3 : (endN lo l i3 pinf).2 = nx := by rw [hEq]
    cases nx with
    | none =>
      have e : R = badN i3 := by rw [eC]; unfold readC; rw [c3]
      rw [e, ← hC3]
      simp only [f113r19, f113r20]
      repeat' (first
 | refine za ?_ | refine zb ?_ | refine zc ?_ | refine zd ?_ | refine ze ?_ | refine zf ?_ | refine zg ?_ | refine zh ?_ | (refine zi ?_; try refine RgD_plain rfl ?_) | refine w_drawn rfl ?_ | refine zj ?_ | refine zl ?_
 | ((first | apply zs | (apply zt; (focus rfl)) | (apply zu; (focus rfl)) | (apply zv; (focus rfl)) | apply zw | apply zx | apply zy | apply zB | apply zC | apply zD | apply zE | apply zF); (focus ((conv => lhs; simp (disch := omega) [-env0_get, bound, List.getElem?_cons_zero, List.getElem?_cons_succ, odt, odf, oip, oin, obt, obf, ont, onf, wrapI, owu, ow8, ow32, otd, oe0, oe1, oe2, oe3, oe4, oe5, oe6, otn, ot1, ot2, ot4, e0, e1, e4, e7, e9, e10, h44, z4, hs3, c1, c2, c3]); first | done | rfl)); first | apply zk | (apply zn; (focus rfl); try (focus (first | rfl | (simp [e0, e1, e4, e7, e9, e10, h44, z4, hs3, c1, c2, c3]; done)))) | (apply zo; (focus rfl)) | apply gv_u | apply gv_tt | apply gv_ff | apply gv_ft | apply gv_tf | (apply gv_split <;> intro hc <;> try simp only [decide_eq_true_eq, decide_eq_false_iff_not, beq_iff_eq, beq_eq_false_iff_ne, bne_iff_ne, bne_eq_false_iff_eq, Bool.not_true, Bool.not_false, ne_eq] at hc) | exact (is4_runs (w := [44]) hl hi2 (by simp)) | exact (blanks4_runs (i := i2 + 1) hl (by omega)) | exact (end4_runs (w := pinf) hl hi3 rfl))
 | (simp (disch := omega) only [thenQ_normal, thenQ_exit, thenQ_ret, blockQ_normal, blockQ_ret, blockQ_exit_same, blockQ_exit_ne]))
    | some j =>
      have hj := hnx j rfl
      have hi4 := sk_le (lo := lo) hj
      obtain ⟨i4, hs4⟩ : ∃ i4, sk lo l j = i4 := ⟨_, rfl⟩
      rw [hs4] at hi4
      obtain ⟨cl, hcl⟩ : ∃ cl, (lo && isAt l i4 [93]) = cl := ⟨_, rfl⟩
      have eD : R = readD lo l low (k, a) i3 i4 := by rw [eC]; unfold readC; rw [c3]; simp only; rw [hs4, hEq]
      unfold readD at eD
      rw [hcl] at eD
      simp only at eD
      apply mergeOk (X := X) (κ := ⟨h.size, []⟩) (c := C4) (Q := EndsQ [.cellN 4 4, .tmp 5, .tmp 6] .pure h (tri R) h) (fun env h' => h' = (((h.push z4).push z4).push (bO low)).push (bO (k, a)) ∧ env 0 = sv l ∧ env 4 = .pointer (some ⟨h.size, 0, none⟩) ∧ env 7 = .pointer (some ⟨h.size + 1, 0, none⟩) ∧ env 10 = .pointer (some ⟨h.size + 2, 0, none⟩) ∧ env 9 = .int .i64 (i4 : Nat) ∧ env 12 = .int .i64 (i3 : Nat) ∧ env 13 = .pointer (some ⟨h.size + 3, 0, none⟩) ∧ env 15 = .bool cl)
      case g =>
        intro key
        rw [← hC3]
        simp only [f113r19, f113r20, f113r21, f113r22]
        rcases Bool.eq_false_or_eq_true lo with hl1 | hl1
        all_goals (have d1 := c1; have d2 := c2; have d3 := c3; have s3 := hs3; have s4 := hs4; have b1 := hcl; have b2 : lo = true → isAt l i4 [93] = cl := fun q => (by rw [q] at hcl; simpa using hcl); rw [hl1] at d1 d2 d3 s3 s4 b1 b2; simp only [Bool.true_and, Bool.false_and, true_implies, Bool.false_eq_true, false_implies] at b1 b2)
        all_goals (repeat' (first
 | refine za ?_ | refine zb ?_ | refine zc ?_ | refine zd ?_ | refine ze ?_ | refine zf ?_ | refine zg ?_ | refine zh ?_ | (refine zi ?_; try refine RgD_plain rfl ?_) | refine w_drawn rfl ?_ | refine zj ?_ | refine zl ?_
 | ((first | apply zs | (apply zt; (focus rfl)) | (apply zu; (focus rfl)) | (apply zv; (focus rfl)) | apply zw | apply zx | apply zy | apply zB | apply zC | apply zD | apply zE | apply zF); (focus ((conv => lhs; simp (disch := omega) [-env0_get, bound, List.getElem?_cons_zero, List.getElem?_cons_succ, odt, odf, oip, oin, obt, obf, ont, onf, wrapI, owu, ow8, ow32, otd, oe0, oe1, oe2, oe3, oe4, oe5, oe6, otn, ot1, ot2, ot4, e0, e1, e4, e7, e9, e10, h44, z4, bO, s3, s4, d1, d2, d3, b2, hl1]); first | done | rfl)); first | apply zk | (apply zn; (focus rfl); try (focus (first | rfl | (simp [e0, e1, e4, e7, e9, e10, h44, z4, bO, s3, s4, d1, d2, d3, b2, hl1]; done)))) | (apply zo; (focus rfl)) | apply gv_u | apply gv_tt | apply gv_ff | apply gv_ft | apply gv_tf | (apply gv_split <;> intro hc <;> try simp only [decide_eq_true_eq, decide_eq_false_iff_not, beq_iff_eq, beq_eq_false_iff_ne, bne_iff_ne, bne_eq_false_iff_eq, Bool.not_true, Bool.not_false, ne_eq] at hc) | exact (is4_runs (w := [44]) hl hi2 (by simp)) | exact (blanks4_runs (i := i2 + 1) hl (by omega)) | exact (end4_runs (w := pinf) hl hi3 rfl) | exact (blanks4_runs hl hj) | exact (is4_runs (w := [93]) hl hi4 (by simp)))
 | (simp (disch := omega) only [thenQ_normal, thenQ_exit, thenQ_ret, blockQ_normal, blockQ_ret, blockQ_exit_same, blockQ_exit_ne])))
        all_goals refine key _ _ ?_
        all_goals exact ⟨by simp [z4, bO], by simp [e0], by simp [e4], by simp [e7], by simp [e10], by simp, by simp, by simp, by first | (simp; done) | (simp; exact b1.symm)⟩
      clear e0 e1 e4 e7 e10 e9 hEq c1 c2 c3 hnx hcl eB eC
      rintro env _ ⟨rfl, e0, e4, e7, e10, e9, e12, e13, e15⟩
      rw [← hC4]
      simp only [f113r23, f113r24, f113r25, f113r26]
      by_cases hbad : cl = false ∧ isAt l i4 [41] = false
      · have e : R = badN i4 := by rw [eD, if_pos hbad]
        obtain ⟨hb1, hb2⟩ := hbad
        rw [e]
        repeat' (first
 | refine za ?_ | refine zb ?_ | refine zc ?_ | refine zd ?_ | refine ze ?_ | refine zf ?_ | refine zg ?_ | refine zh ?_ | (refine zi ?_; try refine RgD_plain rfl ?_) | refine w_drawn rfl ?_ | refine zj ?_ | refine zl ?_
 | ((first | apply zs | (apply zt; (focus rfl)) | (apply zu; (focus rfl)) | (apply zv; (focus rfl)) | apply zw | apply zx | apply zy | apply zB | apply zC | apply zD | apply zE | apply zF); (focus ((conv => lhs; simp (disch := omega) [-env0_get, bound, List.getElem?_cons_zero, List.getElem?_cons_succ, odt, odf, oip, oin, obt, obf, ont, onf, wrapI, owu, ow8, ow32, otd, oe0, oe1, oe2, oe3, oe4, oe5, oe6, otn, ot1, ot2, ot4, e0, e4, e7, e9, e10, e12, e13, e15, z4, hb1, hb2]); first | done | rfl)); first | apply zk | (apply zn; (focus rfl); try (focus (first | rfl | (simp [e0, e4, e7, e9, e10, e12, e13, e15, z4, hb1, hb2]; done)))) | (apply zo; (focus rfl)) | apply gv_u | apply gv_tt | apply gv_ff | apply gv_ft | apply gv_tf | (apply gv_split <;> intro hc <;> try simp only [decide_eq_true_eq, decide_eq_false_iff_not, beq_iff_eq, beq_eq_false_iff_ne, bne_iff_ne, bne_eq_false_iff_eq, Bool.not_true, Bool.not_false, ne_eq] at hc) | exact (is4_runs (w := [41]) hl hi4 (by simp)))
 | (simp (disch := omega) only [thenQ_normal, thenQ_exit, thenQ_ret, blockQ_normal, blockQ_ret, blockQ_exit_same, blockQ_exit_ne]))
      · rw [if_neg hbad] at eD
        generalize hhk : (if k = 1 ∧ cl = true then (2 : Int) else k) = k2 at eD
        have hk2 : 0 ≤ k2 ∧ k2 ≤ 2 := by rw [← hhk]; split; exact ⟨by omega, by omega⟩; rcases hk with q | q <;> omega
        have hlen4 : i4 ≤ 900000 := by omega
        rw [← hC5]
        simp only [f113r27, f113r28, f113r29, f113r30]
        rcases hR2 : spanB low.1 low.2 k2 a with ⟨x, er⟩
        rw [hR2] at eD
        simp only at eD
        have r1 : (spanB low.1 low.2 k2 a).1 = x := by rw [hR2]
        have r2 : (spanB low.1 low.2 k2 a).2 = er := by rw [hR2]
        have h41 : ¬ cl = true → isAt l i4 [41] = true := fun q => by
          cases hq : isAt l i4 [41]
          · exact absurd ⟨by simpa using q, hq⟩ hbad
          · rfl
        by_cases her : er = 0
        · rw [if_pos her] at eD
          rw [eD]
          rcases hk with hk | hk <;> rcases Bool.eq_false_or_eq_true cl with hc | hc
          all_goals simp only [hk, hc, and_self, if_true, if_false, Bool.false_eq_true, and_false, false_and, show ¬ (0 : Int) = 1 by omega] at hhk
          all_goals simp only [hc, not_true_eq_false, false_implies, Bool.false_eq_true, not_false_eq_true, true_implies] at h41
          all_goals subst hhk
          all_goals (repeat' (first
 | refine za ?_ | refine zb ?_ | refine zc ?_ | refine zd ?_ | refine ze ?_ | refine zf ?_ | refine zg ?_ | refine zh ?_ | (refine zi ?_; try refine RgD_plain rfl ?_) | refine w_drawn rfl ?_ | refine zj ?_ | refine zl ?_
 | ((first | apply zs | (apply zt; (focus rfl)) | (apply zu; (focus rfl)) | (apply zv; (focus rfl)) | apply zw | apply zx | apply zy | apply zB | apply zC | apply zD | apply zE | apply zF); (focus ((conv => lhs; simp (disch := omega) [-env0_get, bound, List.getElem?_cons_zero, List.getElem?_cons_succ, odt, odf, oip, oin, obt, obf, ont, onf, wrapI, owu, ow8, ow32, otd, oe0, oe1, oe2, oe3, oe4, oe5, oe6, otn, ot1, ot2, ot4, e0, e4, e7, e9, e10, e12, e13, e15, z4, bO, hk, hc, h41, r1, r2, her]); first | done | rfl)); first | apply zk | (apply zn; (focus rfl); try (focus (first | rfl | (simp [e0, e4, e7, e9, e10, e12, e13, e15, z4, bO, hk, hc, h41, r1, r2, her]; done)))) | (apply zo; (focus rfl)) | apply gv_u | apply gv_tt | apply gv_ff | apply gv_ft | apply gv_tf | (apply gv_split <;> intro hc <;> try simp only [decide_eq_true_eq, decide_eq_false_iff_not, beq_iff_eq, beq_eq_false_iff_ne, bne_iff_ne, bne_eq_false_iff_eq, Bool.not_true, Bool.not_false, ne_eq] at hc) | exact (is4_runs (w := [41]) hl hi4 (by simp)) | exact (spanB2_runs hlowk (by omega) hlowa hka))
 | (simp (disch := omega) only [thenQ_normal, thenQ_exit, thenQ_ret, blockQ_normal, blockQ_ret, blockQ_exit_same, blockQ_exit_ne])))
        · rw [if_neg her] at eD
          rw [eD]
          rcases hk with hk | hk <;> rcases Bool.eq_false_or_eq_true cl with hc | hc
          all_goals simp only [hk, hc, and_self, if_true, if_false, Bool.false_eq_true, and_false, false_and, show ¬ (0 : Int) = 1 by omega] at hhk
          all_goals simp only [hc, not_true_eq_false, false_implies, Bool.false_eq_true, not_false_eq_true, true_implies] at h41
          all_goals subst hhk
          all_goals (repeat' (first
 | refine za ?_ | refine zb ?_ | refine zc ?_ | refine zd ?_ | refine ze ?_ | refine zf ?_ | refine zg ?_ | refine zh ?_ | (refine zi ?_; try refine RgD_plain rfl ?_) | refine w_drawn rfl ?_ | refine zj ?_ | refine zl ?_
 | ((first | apply zs | (apply zt; (focus rfl)) | (apply zu; (focus rfl)) | (apply zv; (focus rfl)) | apply zw | apply zx | apply zy | apply zB | apply zC | apply zD | apply zE | apply zF); (focus ((conv => lhs; simp (disch := omega) [-env0_get, bound, List.getElem?_cons_zero, List.getElem?_cons_succ, odt, odf, oip, oin, obt, obf, ont, onf, wrapI, owu, ow8, ow32, otd, oe0, oe1, oe2, oe3, oe4, oe5, oe6, otn, ot1, ot2, ot4, e0, e4, e7, e9, e10, e12, e13, e15, z4, bO, hk, hc, h41, r1, r2]); first | done | rfl)); first | apply zk | (apply zn; (focus rfl); try (focus (first | rfl | (simp [e0, e4, e7, e9, e10, e12, e13, e15, z4, bO, hk, hc, h41, r1, r2]; done)))) | (apply zo; (focus rfl)) | apply gv_u | apply gv_tt | apply gv_ff | apply gv_ft | apply gv_tf | (apply gv_split <;> intro hc <;> try simp only [decide_eq_true_eq, decide_eq_false_iff_not, beq_iff_eq, beq_eq_false_iff_ne, bne_iff_ne, bne_eq_false_iff_eq, Bool.not_true, Bool.not_false, ne_eq] at hc) | exact (is4_runs (w := [41]) hl hi4 (by simp)) | exact (spanB2_runs hlowk (by omega) hlowa hka))
 | (simp (disch := omega) only [thenQ_normal, thenQ_exit, thenQ_ret, blockQ_normal, blockQ_ret, blockQ_exit_same, blockQ_exit_ne])))
  · simp only [Bool.not_eq_true] at h44
    have e : R = badN i2 := by rw [eB]; unfold readB; rw [if_neg (by rw [h44]; simp)]
    rw [e]
    repeat' (first
 | refine za ?_ | refine zb ?_ | refine zc ?_ | refine zd ?_ | refine ze ?_ | refine zf ?_ | refine zg ?_ | refine zh ?_ | (refine zi ?_; try refine RgD_plain rfl ?_) | refine w_drawn rfl ?_ | refine zj ?_ | refine zl ?_
 | ((first | apply zs | (apply zt; (focus rfl)) | (apply zu; (focus rfl)) | (apply zv; (focus rfl)) | apply zw | apply zx | apply zy | apply zB | apply zC | apply zD | apply zE | apply zF); (focus ((conv => lhs; simp (disch := omega) [-env0_get, bound, List.getElem?_cons_zero, List.getElem?_cons_succ, odt, odf, oip, oin, obt, obf, ont, onf, wrapI, owu, ow8, ow32, otd, oe0, oe1, oe2, oe3, oe4, oe5, oe6, otn, ot1, ot2, ot4, e0, e1, e4, e7, e9, e10, h44, z4]); first | done | rfl)); first | apply zk | (apply zn; (focus rfl); try (focus (first | rfl | (simp [e0, e1, e4, e7, e9, e10, h44, z4]; done)))) | (apply zo; (focus rfl)) | apply gv_u | apply gv_tt | apply gv_ff | apply gv_ft | apply gv_tf | (apply gv_split <;> intro hc <;> try simp only [decide_eq_true_eq, decide_eq_false_iff_not, beq_iff_eq, beq_eq_false_iff_ne, bne_iff_ne, bne_eq_false_iff_eq, Bool.not_true, Bool.not_false, ne_eq] at hc) | exact (is4_runs (w := [44]) hl hi2 (by simp)))
 | (simp (disch := omega) only [thenQ_normal, thenQ_exit, thenQ_ret, blockQ_normal, blockQ_ret, blockQ_exit_same, blockQ_exit_ne]))
end Go.Proofs.Ytlgbeekhaoiggaa
end
