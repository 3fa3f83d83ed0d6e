import Derived.Test.YtlgbeekhaoiggaaCodeC
import Derived.Test.YtlgbeekhaoiggaaCodeA
set_option linter.all false
section
namespace Go.Proofs.Ytlgbeekhaoiggaa
open Go.AM
set_option maxHeartbeats 4000000
variable {f : Nat} {h : Heap}
def behindC (n : Int) : Int × Int := if n = 9223372036854775807 then (1, 0) else (0, n + 1)
def spanOf (a b : Int × Int) : Sp × Int := if rightS (canon a).1 (canon a).2 (canon b).1 (canon b).2 then (⟨(canon a).1, (canon a).2, (canon b).1, (canon b).2⟩, 0) else (⟨0, 0, 0, 0⟩, 30)
def lowC (k a : Int) : Int × Int := if k = 1 then behindC a else if k = 2 then canon (0, a) else (-1, 0)
def highC (k a : Int) : Int × Int := if k = 1 then canon (0, a) else if k = 2 then behindC a else (1, 0)
def spanB (lk la hk ha : Int) : Sp × Int := if (0 ≤ lk ∧ lk ≤ 2) ∧ (0 ≤ hk ∧ hk ≤ 2) then spanOf (lowC lk la) (highC hk ha) else (⟨0, 0, 0, 0⟩, 40)
theorem behind_runs {n : Int} (hn : -9223372036854775808 ≤ n ∧ n ≤ 9223372036854775807) : Runs X ⟨f, []⟩ 186 [.int .i64 n] h (.agg #[.int .i64 (behindC n).1, .int .i64 (behindC n).2]) h := by
  refine Runs_of rfl f186_is ?_
  simp only [f186r0, f186r1, f186r2, f186r3, f186b]
  repeat' (first
 | refine za ?_ | refine zb ?_ | refine zc ?_ | refine zd ?_ | refine ze ?_ | refine zf ?_ | refine zg ?_ | refine zh ?_ | (refine zi ?_; try refine RgD_plain rfl ?_) | refine w_drawn rfl ?_ | refine zj ?_ | refine zl ?_
 | ((first | apply zs | (apply zt; (focus rfl)) | (apply zu; (focus rfl)) | (apply zv; (focus rfl)) | apply zw | apply zx | apply zy | apply zB | apply zC | apply zD | apply zE | apply zF); (focus ((conv => lhs; simp (disch := omega) [-env0_get, bound, List.getElem?_cons_zero, List.getElem?_cons_succ, odt, odf, oip, oin, obt, obf, ont, onf, wrapI, owu, ow8, ow32, otd, oe0, oe1, oe2, oe3, oe4, oe5, oe6, otn, ot1, ot2, ot4]); first | done | rfl)); first | apply zk | (apply zn; (focus rfl); try (focus (first | rfl | (simp; done)))) | (apply zo; (focus rfl)) | apply gv_u | apply gv_tt | apply gv_ff | apply gv_ft | apply gv_tf | (apply gv_split <;> intro hc <;> try simp only [decide_eq_true_eq, decide_eq_false_iff_not, beq_iff_eq, beq_eq_false_iff_ne, bne_iff_ne, bne_eq_false_iff_eq, Bool.not_true, Bool.not_false, ne_eq] at hc) | exact last_runs)
 | (simp (disch := omega) only [thenQ_normal, thenQ_exit, thenQ_ret, blockQ_normal, blockQ_ret, blockQ_exit_same, blockQ_exit_ne]))
  all_goals simp_all [behindC, tup]
theorem ahead_runs {n : Int} : Runs X ⟨f, []⟩ 187 [.int .i64 n] h (.agg #[.int .i64 (canon (0, n)).1, .int .i64 (canon (0, n)).2]) h := by
  refine Runs_of rfl f187_is ?_
  simp only [f187r0, f187r1, f187b]
  repeat' (first
 | refine za ?_ | refine zb ?_ | refine zc ?_ | refine zd ?_ | refine ze ?_ | refine zf ?_ | refine zg ?_ | refine zh ?_ | (refine zi ?_; try refine RgD_plain rfl ?_) | refine w_drawn rfl ?_ | refine zj ?_ | refine zl ?_
 | ((first | apply zs | (apply zt; (focus rfl)) | (apply zu; (focus rfl)) | (apply zv; (focus rfl)) | apply zw | apply zx | apply zy | apply zB | apply zC | apply zD | apply zE | apply zF); (focus ((conv => lhs; simp (disch := omega) [-env0_get, bound, List.getElem?_cons_zero, List.getElem?_cons_succ, odt, odf, oip, oin, obt, obf, ont, onf, wrapI, owu, ow8, ow32, otd, oe0, oe1, oe2, oe3, oe4, oe5, oe6, otn, ot1, ot2, ot4]); first | done | rfl)); first | apply zk | (apply zn; (focus rfl); try (focus (first | rfl | (simp; done)))) | (apply zo; (focus rfl)) | apply gv_u | apply gv_tt | apply gv_ff | apply gv_ft | apply gv_tf | (apply gv_split <;> intro hc <;> try simp only [decide_eq_true_eq, decide_eq_false_iff_not, beq_iff_eq, beq_eq_false_iff_ne, bne_iff_ne, bne_eq_false_iff_eq, Bool.not_true, Bool.not_false, ne_eq] at hc) | exact canon_runs)
 | (simp (disch := omega) only [thenQ_normal, thenQ_exit, thenQ_ret, blockQ_normal, blockQ_ret, blockQ_exit_same, blockQ_exit_ne]))
abbrev spV (x : Sp) : Value := .agg #[.int .i64 x.a, .int .i64 x.b, .int .i64 x.c, .int .i64 x.d]
theorem of_runs {a b : Int × Int} : Runs X ⟨f, []⟩ 157 [.agg #[.int .i64 a.1, .int .i64 a.2], .agg #[.int .i64 b.1, .int .i64 b.2]] h (.tuple #[spV (spanOf a b).1, .int .i64 (spanOf a b).2]) h := by
  obtain ⟨a1, a2⟩ := a
  obtain ⟨b1, b2⟩ := b
  refine Runs_of rfl f157_is ?_
  simp only [f157r0, f157r1, f157r2, f157r3, f157r4, f157b]
  unfold spanOf
  cases hr : rightS (canon (a1, a2)).1 (canon (a1, a2)).2 (canon (b1, b2)).1 (canon (b1, b2)).2
  · simp only [Bool.false_eq_true, if_false]
    repeat' (first
 | refine za ?_ | refine zb ?_ | refine zc ?_ | refine zd ?_ | refine ze ?_ | refine zf ?_ | refine zg ?_ | refine zh ?_ | (refine zi ?_; try refine RgD_plain rfl ?_) | refine w_drawn rfl ?_ | refine zj ?_ | refine zl ?_
 | ((first | apply zs | (apply zt; (focus rfl)) | (apply zu; (focus rfl)) | (apply zv; (focus rfl)) | apply zw | apply zx | apply zy | apply zB | apply zC | apply zD | apply zE | apply zF); (focus ((conv => lhs; simp (disch := omega) [-env0_get, bound, List.getElem?_cons_zero, List.getElem?_cons_succ, odt, odf, oip, oin, obt, obf, ont, onf, wrapI, owu, ow8, ow32, otd, oe0, oe1, oe2, oe3, oe4, oe5, oe6, otn, ot1, ot2, ot4, hr]); first | done | rfl)); first | apply zk | (apply zn; (focus rfl); try (focus (first | rfl | (simp [hr]; done)))) | (apply zo; (focus rfl)) | apply gv_u | apply gv_tt | apply gv_ff | apply gv_ft | apply gv_tf | (apply gv_split <;> intro hc <;> try simp only [decide_eq_true_eq, decide_eq_false_iff_not, beq_iff_eq, beq_eq_false_iff_ne, bne_iff_ne, bne_eq_false_iff_eq, Bool.not_true, Bool.not_false, ne_eq] at hc) | exact canon_runs | exact rightS_runs)
 | (simp (disch := omega) only [thenQ_normal, thenQ_exit, thenQ_ret, blockQ_normal, blockQ_ret, blockQ_exit_same, blockQ_exit_ne]))
  · simp only [if_true]
    repeat' (first
 | refine za ?_ | refine zb ?_ | refine zc ?_ | refine zd ?_ | refine ze ?_ | refine zf ?_ | refine zg ?_ | refine zh ?_ | (refine zi ?_; try refine RgD_plain rfl ?_) | refine w_drawn rfl ?_ | refine zj ?_ | refine zl ?_
 | ((first | apply zs | (apply zt; (focus rfl)) | (apply zu; (focus rfl)) | (apply zv; (focus rfl)) | apply zw | apply zx | apply zy | apply zB | apply zC | apply zD | apply zE | apply zF); (focus ((conv => lhs; simp (disch := omega) [-env0_get, bound, List.getElem?_cons_zero, List.getElem?_cons_succ, odt, odf, oip, oin, obt, obf, ont, onf, wrapI, owu, ow8, ow32, otd, oe0, oe1, oe2, oe3, oe4, oe5, oe6, otn, ot1, ot2, ot4, hr]); first | done | rfl)); first | apply zk | (apply zn; (focus rfl); try (focus (first | rfl | (simp [hr]; done)))) | (apply zo; (focus rfl)) | apply gv_u | apply gv_tt | apply gv_ff | apply gv_ft | apply gv_tf | (apply gv_split <;> intro hc <;> try simp only [decide_eq_true_eq, decide_eq_false_iff_not, beq_iff_eq, beq_eq_false_iff_ne, bne_iff_ne, bne_eq_false_iff_eq, Bool.not_true, Bool.not_false, ne_eq] at hc) | exact canon_runs | exact rightS_runs)
 | (simp (disch := omega) only [thenQ_normal, thenQ_exit, thenQ_ret, blockQ_normal, blockQ_ret, blockQ_exit_same, blockQ_exit_ne]))
theorem bright_runs {k a : Int} : Runs X ⟨f, []⟩ 185 [.agg #[.int .i64 k, .int .i64 a]] h (.bool (decide (0 ≤ k ∧ k ≤ 2))) h := by
  refine Runs_of rfl f185_is ?_
  simp only [f185r0, f185r1, f185b]
  repeat' (first
 | refine za ?_ | refine zb ?_ | refine zc ?_ | refine zd ?_ | refine ze ?_ | refine zf ?_ | refine zg ?_ | refine zh ?_ | (refine zi ?_; try refine RgD_plain rfl ?_) | refine w_drawn rfl ?_ | refine zj ?_ | refine zl ?_
 | ((first | apply zs | (apply zt; (focus rfl)) | (apply zu; (focus rfl)) | (apply zv; (focus rfl)) | apply zx | apply zy | apply zB | apply zC | apply zD | apply zE | apply zF); (focus ((conv => lhs; simp (disch := omega) [-env0_get, bound, List.getElem?_cons_zero, List.getElem?_cons_succ, odt, odf, oip, oin, obt, obf, ont, onf, wrapI, owu, ow8, ow32, otd, oe0, oe1, oe2, oe3, oe4, oe5, oe6, otn, ot1, ot2, ot4]); first | done | rfl)); first | apply zk | (apply zn; (focus rfl); try (focus (first | rfl | (simp; done)))) | (apply zo; (focus rfl)) | apply gv_u | apply gv_tt | apply gv_ff | apply gv_ft | apply gv_tf | (apply gv_split <;> intro hc <;> try simp only [decide_eq_true_eq, decide_eq_false_iff_not, beq_iff_eq, beq_eq_false_iff_ne, bne_iff_ne, bne_eq_false_iff_eq, Bool.not_true, Bool.not_false, ne_eq] at hc))
 | (simp (disch := omega) only [thenQ_normal, thenQ_exit, thenQ_ret, blockQ_normal, blockQ_ret, blockQ_exit_same, blockQ_exit_ne]))
  all_goals (simp_all [tup]; try omega)
theorem spanB_runs {lk la hk ha : Int} (h1 : 0 ≤ lk ∧ lk ≤ 2) (h2 : 0 ≤ hk ∧ hk ≤ 2) (h3 : -9223372036854775808 ≤ la ∧ la ≤ 9223372036854775807) (h4 : -9223372036854775808 ≤ ha ∧ ha ≤ 9223372036854775807) :
    Runs X ⟨f, []⟩ 170 [.agg #[.int .i64 lk, .int .i64 la], .agg #[.int .i64 hk, .int .i64 ha]] h (.tuple #[spV (spanB lk la hk ha).1, .int .i64 (spanB lk la hk ha).2]) h := by
  have e : spanB lk la hk ha = spanOf (lowC lk la) (highC hk ha) := if_pos ⟨h1, h2⟩
  rw [e]
  refine Runs_of rfl f170_is ?_
  simp only [f170r0, f170r1, f170r2, f170r3, f170r4, f170r5, f170r6, f170r7, f170r8, f170r9, f170r10, f170r11, f170r12, f170r13, f170r14, f170b]
  rcases (by omega : lk = 0 ∨ lk = 1 ∨ lk = 2) with rfl | rfl | rfl <;> rcases (by omega : hk = 0 ∨ hk = 1 ∨ hk = 2) with rfl | rfl | rfl <;> simp only [lowC, highC, if_true, show ¬ (0 : Int) = 1 by omega, show ¬ (0 : Int) = 2 by omega, show ¬ (2 : Int) = 1 by omega, if_false]
  all_goals repeat' (first
 | refine za ?_ | refine zb ?_ | refine zc ?_ | refine zd ?_ | refine ze ?_ | refine zf ?_ | refine zg ?_ | refine zh ?_ | (refine zi ?_; try refine RgD_plain rfl ?_) | refine w_drawn rfl ?_ | refine zj ?_ | refine zl ?_
 | ((first | apply zs | (apply zt; (focus rfl)) | (apply zu; (focus rfl)) | (apply zv; (focus rfl)) | apply zw | apply zx | apply zy | apply zB | apply zC | apply zD | apply zE | apply zF); (focus ((conv => lhs; simp (disch := omega) [-env0_get, bound, List.getElem?_cons_zero, List.getElem?_cons_succ, odt, odf, oip, oin, obt, obf, ont, onf, wrapI, owu, ow8, ow32, otd, oe0, oe1, oe2, oe3, oe4, oe5, oe6, otn, ot1, ot2, ot4]); first | done | rfl)); first | apply zk | (apply zn; (focus rfl); try (focus (first | rfl | (simp; done)))) | (apply zo; (focus rfl)) | apply gv_u | apply gv_tt | apply gv_ff | apply gv_ft | apply gv_tf | (apply gv_split <;> intro hc <;> try simp only [decide_eq_true_eq, decide_eq_false_iff_not, beq_iff_eq, beq_eq_false_iff_ne, bne_iff_ne, bne_eq_false_iff_eq, Bool.not_true, Bool.not_false, ne_eq] at hc) | exact bright_runs | exact first_runs | exact last_runs | exact (behind_runs h3) | exact (behind_runs h4) | exact ahead_runs | exact of_runs | exact (of_runs (a := (-1, 0))) | exact (of_runs (b := (1, 0))) | exact (of_runs (a := (-1, 0)) (b := (1, 0))))
 | (simp (disch := omega) only [thenQ_normal, thenQ_exit, thenQ_ret, blockQ_normal, blockQ_ret, blockQ_exit_same, blockQ_exit_ne]))
def plainR (l : List UInt8) : Int × Nat := if (cutR l).1.1 = 0 then ((cutR l).1.2, (cutR l).2) else (0, 0)
theorem plain_runs {l : List UInt8} (hl : l.length ≤ 900000) : Runs X ⟨f, []⟩ 135 [sv l] h (.tuple #[.int .i64 (plainR l).1, .int .i64 (plainR l).2]) h := by
  refine Runs_of rfl f135_is ?_
  simp only [f135r0, f135r1, f135r2, f135r3, f135r4, f135b]
  unfold plainR
  by_cases hc : (cutR l).1.1 = 0
  · rw [if_pos hc]
    repeat' (first
 | refine za ?_ | refine zb ?_ | refine zc ?_ | refine zd ?_ | refine ze ?_ | refine zf ?_ | refine zg ?_ | refine zh ?_ | (refine zi ?_; try refine RgD_plain rfl ?_) | refine w_drawn rfl ?_ | refine zj ?_ | refine zl ?_
 | ((first | apply zs | (apply zt; (focus rfl)) | (apply zu; (focus rfl)) | (apply zv; (focus rfl)) | apply zw | apply zx | apply zy | apply zB | apply zC | apply zD | apply zE | apply zF); (focus ((conv => lhs; simp (disch := omega) [-env0_get, bound, List.getElem?_cons_zero, List.getElem?_cons_succ, odt, odf, oip, oin, obt, obf, ont, onf, wrapI, owu, ow8, ow32, otd, oe0, oe1, oe2, oe3, oe4, oe5, oe6, otn, ot1, ot2, ot4, hc]); first | done | rfl)); first | apply zk | (apply zn; (focus rfl); try (focus (first | rfl | (simp [hc]; done)))) | (apply zo; (focus rfl)) | apply gv_u | apply gv_tt | apply gv_ff | apply gv_ft | apply gv_tf | (apply gv_split <;> intro hc <;> try simp only [decide_eq_true_eq, decide_eq_false_iff_not, beq_iff_eq, beq_eq_false_iff_ne, bne_iff_ne, bne_eq_false_iff_eq, Bool.not_true, Bool.not_false, ne_eq] at hc) | exact (cutRead_runs hl))
 | (simp (disch := omega) only [thenQ_normal, thenQ_exit, thenQ_ret, blockQ_normal, blockQ_ret, blockQ_exit_same, blockQ_exit_ne]))
  · rw [if_neg hc]
    have hc' : ((cutR l).1.1 != 0) = true := by simp [hc]
    repeat' (first
 | refine za ?_ | refine zb ?_ | refine zc ?_ | refine zd ?_ | refine ze ?_ | refine zf ?_ | refine zg ?_ | refine zh ?_ | (refine zi ?_; try refine RgD_plain rfl ?_) | refine w_drawn rfl ?_ | refine zj ?_ | refine zl ?_
 | ((first | apply zs | (apply zt; (focus rfl)) | (apply zu; (focus rfl)) | (apply zv; (focus rfl)) | apply zw | apply zx | apply zy | apply zB | apply zC | apply zD | apply zE | apply zF); (focus ((conv => lhs; simp (disch := omega) [-env0_get, bound, List.getElem?_cons_zero, List.getElem?_cons_succ, odt, odf, oip, oin, obt, obf, ont, onf, wrapI, owu, ow8, ow32, otd, oe0, oe1, oe2, oe3, oe4, oe5, oe6, otn, ot1, ot2, ot4, hc']); first | done | rfl)); first | apply zk | (apply zn; (focus rfl); try (focus (first | rfl | (simp [hc']; done)))) | (apply zo; (focus rfl)) | apply gv_u | apply gv_tt | apply gv_ff | apply gv_ft | apply gv_tf | (apply gv_split <;> intro hc <;> try simp only [decide_eq_true_eq, decide_eq_false_iff_not, beq_iff_eq, beq_eq_false_iff_ne, bne_iff_ne, bne_eq_false_iff_eq, Bool.not_true, Bool.not_false, ne_eq] at hc) | exact (cutRead_runs hl))
 | (simp (disch := omega) only [thenQ_normal, thenQ_exit, thenQ_ret, blockQ_normal, blockQ_ret, blockQ_exit_same, blockQ_exit_ne]))
def toldP (s : St) (lk la hk ha : Int) (at_ : Nat) : Sp × Nat × Int := if s.2 then (⟨0, 0, 0, 0⟩, s.1, 40) else if (spanB lk la hk ha).2 = 0 then ((spanB lk la hk ha).1, s.1, 0) else (⟨0, 0, 0, 0⟩, at_, (spanB lk la hk ha).2)
theorem told_runs {p : Nat} {l : List UInt8} {lo : Bool} {s : St} {lk la hk ha : Int} {at_ : Nat} (hp : h[p]? = some (rdO l lo s)) (h1 : 0 ≤ lk ∧ lk ≤ 2) (h2 : 0 ≤ hk ∧ hk ≤ 2) (h3 : -9223372036854775808 ≤ la ∧ la ≤ 9223372036854775807) (h4 : -9223372036854775808 ≤ ha ∧ ha ≤ 9223372036854775807) :
    Runs X ⟨f, []⟩ 136 [.pointer (some ⟨p, 0, none⟩), .agg #[.int .i64 lk, .int .i64 la], .agg #[.int .i64 hk, .int .i64 ha], .int .i64 at_] h (.tuple #[spV (toldP s lk la hk ha at_).1, .int .i64 (toldP s lk la hk ha at_).2.1, .int .i64 (toldP s lk la hk ha at_).2.2]) h := by
  have hlt := (Array.getElem?_eq_some_iff.1 hp).1
  obtain ⟨at2, am⟩ := s
  have c0 : h.cellsAt p = some [sv l, .int .i64 at2, .bool am, .bool lo] := by unfold Heap.cellsAt; rw [hp]; rfl
  refine Runs_of rfl f136_is ?_
  simp only [f136r0, f136r1, f136r2, f136r3, f136r4, f136r5, f136r6, f136b]
  unfold toldP
  cases am with
  | true =>
    simp only [if_true]
    repeat' (first
 | refine za ?_ | refine zb ?_ | refine zc ?_ | refine zd ?_ | refine ze ?_ | refine zf ?_ | refine zg ?_ | refine zh ?_ | (refine zi ?_; try refine RgD_plain rfl ?_) | refine w_drawn rfl ?_ | refine zj ?_ | refine zl ?_
 | ((first | apply zs | (apply zt; (focus rfl)) | (apply zu; (focus rfl)) | (apply zv; (focus rfl)) | apply zx | apply zy | apply zB | apply zC | apply zD | apply zE | apply zF); (focus ((conv => lhs; simp (disch := omega) [-env0_get, bound, List.getElem?_cons_zero, List.getElem?_cons_succ, odt, odf, oip, oin, obt, obf, ont, onf, wrapI, owu, ow8, ow32, otd, oe0, oe1, oe2, oe3, oe4, oe5, oe6, otn, ot1, ot2, ot4, c0]); first | done | rfl)); first | apply zk | (apply zn; (focus rfl); try (focus (first | rfl | (simp [c0]; done)))) | (apply zo; (focus rfl)) | apply gv_u | apply gv_tt | apply gv_ff | apply gv_ft | apply gv_tf | (apply gv_split <;> intro hc <;> try simp only [decide_eq_true_eq, decide_eq_false_iff_not, beq_iff_eq, beq_eq_false_iff_ne, bne_iff_ne, bne_eq_false_iff_eq, Bool.not_true, Bool.not_false, ne_eq] at hc))
 | (simp (disch := omega) only [thenQ_normal, thenQ_exit, thenQ_ret, blockQ_normal, blockQ_ret, blockQ_exit_same, blockQ_exit_ne]))
  | false =>
    simp only [Bool.false_eq_true, if_false]
    by_cases he : (spanB lk la hk ha).2 = 0
    · rw [if_pos he]
      repeat' (first
 | refine za ?_ | refine zb ?_ | refine zc ?_ | refine zd ?_ | refine ze ?_ | refine zf ?_ | refine zg ?_ | refine zh ?_ | (refine zi ?_; try refine RgD_plain rfl ?_) | refine w_drawn rfl ?_ | refine zj ?_ | refine zl ?_
 | ((first | apply zs | (apply zt; (focus rfl)) | (apply zu; (focus rfl)) | (apply zv; (focus rfl)) | apply zw | apply zx | apply zy | apply zB | apply zC | apply zD | apply zE | apply zF); (focus ((conv => lhs; simp (disch := omega) [-env0_get, bound, List.getElem?_cons_zero, List.getElem?_cons_succ, odt, odf, oip, oin, obt, obf, ont, onf, wrapI, owu, ow8, ow32, otd, oe0, oe1, oe2, oe3, oe4, oe5, oe6, otn, ot1, ot2, ot4, c0, he]); first | done | rfl)); first | apply zk | (apply zn; (focus rfl); try (focus (first | rfl | (simp [c0, he]; done)))) | (apply zo; (focus rfl)) | apply gv_u | apply gv_tt | apply gv_ff | apply gv_ft | apply gv_tf | (apply gv_split <;> intro hc <;> try simp only [decide_eq_true_eq, decide_eq_false_iff_not, beq_iff_eq, beq_eq_false_iff_ne, bne_iff_ne, bne_eq_false_iff_eq, Bool.not_true, Bool.not_false, ne_eq] at hc) | exact (spanB_runs h1 h2 h3 h4))
 | (simp (disch := omega) only [thenQ_normal, thenQ_exit, thenQ_ret, blockQ_normal, blockQ_ret, blockQ_exit_same, blockQ_exit_ne]))
    · rw [if_neg he]
      repeat' (first
 | refine za ?_ | refine zb ?_ | refine zc ?_ | refine zd ?_ | refine ze ?_ | refine zf ?_ | refine zg ?_ | refine zh ?_ | (refine zi ?_; try refine RgD_plain rfl ?_) | refine w_drawn rfl ?_ | refine zj ?_ | refine zl ?_
 | ((first | apply zs | (apply zt; (focus rfl)) | (apply zu; (focus rfl)) | (apply zv; (focus rfl)) | apply zw | apply zx | apply zy | apply zB | apply zC | apply zD | apply zE | apply zF); (focus ((conv => lhs; simp (disch := omega) [-env0_get, bound, List.getElem?_cons_zero, List.getElem?_cons_succ, odt, odf, oip, oin, obt, obf, ont, onf, wrapI, owu, ow8, ow32, otd, oe0, oe1, oe2, oe3, oe4, oe5, oe6, otn, ot1, ot2, ot4, c0]); first | done | rfl)); first | apply zk | (apply zn; (focus rfl); try (focus (first | rfl | (simp [c0]; done)))) | (apply zo; (focus rfl)) | apply gv_u | apply gv_tt | apply gv_ff | apply gv_ft | apply gv_tf | (apply gv_split <;> intro hc <;> try simp only [decide_eq_true_eq, decide_eq_false_iff_not, beq_iff_eq, beq_eq_false_iff_ne, bne_iff_ne, bne_eq_false_iff_eq, Bool.not_true, Bool.not_false, ne_eq] at hc) | exact (spanB_runs h1 h2 h3 h4))
 | (simp (disch := omega) only [thenQ_normal, thenQ_exit, thenQ_ret, blockQ_normal, blockQ_ret, blockQ_exit_same, blockQ_exit_ne]))
end Go.Proofs.Ytlgbeekhaoiggaa
end

section
namespace Go.Proofs.Ytlgbeekhaoiggaa
open Go.AM
set_option maxHeartbeats 4000000
variable {f : Nat} {h : Heap}
def isAt (l : List UInt8) (i : Nat) (w : List UInt8) : Bool := decide ((l.drop i).take w.length = w)
def sk (lo : Bool) (l : List UInt8) (i : Nat) : Nat := if lo then skip l i else i
def endN (lo : Bool) (l : List UInt8) (i : Nat) (w : List UInt8) : (Int × Int) × Option Nat :=
  if isAt l i w = true then ((0, 0), some (i + 4)) else
    if (if lo then satRead (l.drop i) else plainR (l.drop i)).2 = 0 then ((0, 0), none) else ((1, (if lo then satRead (l.drop i) else plainR (l.drop i)).1), some (i + (if lo then satRead (l.drop i) else plainR (l.drop i)).2))
def sp0 : Sp := ⟨0, 0, 0, 0⟩
def badN (i : Nat) : Sp × Nat × Int := (sp0, i, 40)
def readD (lo : Bool) (l : List UInt8) (low high : Int × Int) (i j : Nat) : Sp × Nat × Int :=
  if (lo && isAt l j [93]) = false ∧ isAt l j [41] = false then badN j else
    if (spanB low.1 low.2 (if high.1 = 1 ∧ (lo && isAt l j [93]) = true then 2 else high.1) high.2).2 = 0 then ((spanB low.1 low.2 (if high.1 = 1 ∧ (lo && isAt l j [93]) = true then 2 else high.1) high.2).1, j + 1, 0)
    else (sp0, i, (spanB low.1 low.2 (if high.1 = 1 ∧ (lo && isAt l j [93]) = true then 2 else high.1) high.2).2)
def readC (lo : Bool) (l : List UInt8) (low : Int × Int) (i : Nat) : Sp × Nat × Int :=
  match (endN lo l i pinf).2 with
  | none => badN i
  | some j => readD lo l low (endN lo l i pinf).1 i (sk lo l j)
def readB (lo : Bool) (l : List UInt8) (low : Int × Int) (i : Nat) : Sp × Nat × Int := if isAt l i [44] = true then readC lo l low (sk lo l (i + 1)) else badN i
def readA (lo : Bool) (l : List UInt8) (op : Bool) (i : Nat) : Sp × Nat × Int :=
  if lo = false ∧ op ≠ isAt l i minf then badN i else
  match (endN lo l i minf).2 with
  | none => badN i
  | some j => readB lo l (if (endN lo l i minf).1.1 = 1 ∧ op = false then (2, (endN lo l i minf).1.2) else (endN lo l i minf).1) (sk lo l j)
def readN (lo : Bool) (l : List UInt8) : Sp × Nat × Int := if isAt l 0 [40] = false ∧ isAt l 0 [91] = false then badN 0 else readA lo l (isAt l 0 [40]) (sk lo l 1)
theorem isAt_1 {l : List UInt8} {i : Nat} {c : UInt8} : isAt l i [c] = true ↔ l[i]? = some c := by
  unfold isAt
  by_cases hi : i < l.length
  · have : (l.drop i).take [c].length = [l[i]] := by rw [List.drop_eq_getElem_cons hi]; rfl
    rw [this]; simp [hi]
  · have : (l.drop i).take [c].length = [] := by rw [List.drop_eq_nil_of_le (by omega)]; rfl
    rw [this, List.getElem?_eq_none (by omega)]; simp
theorem isAt_len {l w : List UInt8} {i : Nat} (h : isAt l i w = true) (hw : 0 < w.length) : i + w.length ≤ l.length := by
  unfold isAt at h
  have := congrArg List.length (of_decide_eq_true h); simp at this; omega
theorem plainR_len {l : List UInt8} : (plainR l).2 ≤ l.length := by
  unfold plainR
  split
  · unfold cutR
    cases hq : longest parseC l (min 20 l.length) with
    | none => simp
    | some x => obtain ⟨a, b⟩ := x; have := (longest_inv hq).2.1; simp; omega
  · simp
end Go.Proofs.Ytlgbeekhaoiggaa
end

section
namespace Go.Proofs.Ytlgbeekhaoiggaa
open Go.AM
set_option maxHeartbeats 4000000
variable {f : Nat} {h : Heap}
abbrev I64 (n : Int) : Prop := -9223372036854775808 ≤ n ∧ n ≤ 9223372036854775807
theorem parseN_rng {l : List UInt8} {n : Int} (h : parseN l = some n) : I64 n := by
  unfold parseN at h
  split at h
  · split at h
    · rename_i hd; have := hd.2.2.2; simp [most] at this; cases h; exact ⟨by omega, by omega⟩
    · cases h
  · split at h
    · rename_i hd; have := hd.2.2.2; simp [most] at this; cases h; exact ⟨by omega, by omega⟩
    · cases h
theorem satRead_rng {l : List UInt8} : I64 (satRead l).1 := by
  have hs := satRead_longest l
  by_cases hz : (satRead l).2 = 0
  · rw [satRead_zero hz]; exact ⟨by omega, by omega⟩
  · rw [if_neg hz] at hs
    exact parseN_rng (longest_inv hs).2.2.1
theorem cutR_rng {l : List UInt8} : I64 (cutR l).1.2 := by
  unfold cutR
  cases hq : longest parseC l (min 20 l.length) with
  | none => exact ⟨by simp, by simp⟩
  | some x =>
    obtain ⟨⟨a, b⟩, k⟩ := x
    have hp := (longest_inv hq).2.2.1
    simp only [Option.getD_some]
    unfold parseC at hp
    split at hp
    · cases hp; exact ⟨by omega, by omega⟩
    · split at hp
      · cases hp; exact ⟨by omega, by omega⟩
      · split at hp
        · rename_i n hn
          split at hp
          · cases hp
          · cases hp; exact parseN_rng hn
        · cases hp
theorem plainR_rng {l : List UInt8} : I64 (plainR l).1 := by
  unfold plainR; split
  · exact cutR_rng
  · exact ⟨by simp, by simp⟩
theorem sk_le {lo : Bool} {l : List UInt8} {i : Nat} (hi : i ≤ l.length) : sk lo l i ≤ l.length := by
  unfold sk; split
  · exact skip_le l i hi
  · exact hi
theorem endN_ok {lo : Bool} {l w : List UInt8} {i : Nat} (hi : i ≤ l.length) (hw : w.length = 4) : ((endN lo l i w).1.1 = 0 ∨ (endN lo l i w).1.1 = 1) ∧ I64 (endN lo l i w).1.2 ∧ ∀ j, (endN lo l i w).2 = some j → j ≤ l.length := by
  unfold endN
  have h1 := satRead_rng (l := l.drop i)
  have h2 := plainR_rng (l := l.drop i)
  have h3 := sat_len (l := l.drop i)
  have h4 := plainR_len (l := l.drop i)
  simp at h3 h4
  by_cases ha : isAt l i w = true
  · rw [if_pos ha]
    have := isAt_len ha (by omega)
    exact ⟨.inl rfl, ⟨by simp, by simp⟩, fun j hj => by cases hj; omega⟩
  · rw [if_neg ha]
    by_cases hz : (if lo then satRead (l.drop i) else plainR (l.drop i)).2 = 0
    · rw [if_pos hz]; exact ⟨.inl rfl, ⟨by simp, by simp⟩, fun j hj => by cases hj⟩
    · rw [if_neg hz]
      refine ⟨.inr rfl, ?_, fun j hj => ?_⟩
      · cases lo
        · exact h2
        · exact h1
      · cases hj
        cases lo
        · simp only [Bool.false_eq_true, if_false]; omega
        · simp only [if_true]; omega
abbrev tri (x : Sp × Nat × Int) : Value := .tuple #[spV x.1, .int .i64 x.2.1, .int .i64 x.2.2]
def z4 : AObj := .cells [.int .i64 0, .int .i64 0, .int .i64 0, .int .i64 0] 46
def bO (a : Int × Int) : AObj := .cells [.int .i64 a.1, .int .i64 a.2] 148
end Go.Proofs.Ytlgbeekhaoiggaa
end
