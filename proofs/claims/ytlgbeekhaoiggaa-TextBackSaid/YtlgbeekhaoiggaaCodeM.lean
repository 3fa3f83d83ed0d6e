import Derived.Test.YtlgbeekhaoiggaaCodeL
set_option linter.all false
section
namespace Go.Proofs.Ytlgbeekhaoiggaa
open Go.AM
set_option maxHeartbeats 4000000
variable {f : Nat} {h : Heap}
theorem GRow.new {l : List Sg} {n b : Nat} (hb : b = h.size) (hn : n = l.length) : GRow (h.push (.cells (elems sgC l) 57)) (.slice (some ⟨b, 0, none⟩) n n) l := by
  subst hn hb
  exact Buf.row (f := 0) (.inr ⟨h.size, _, rfl, by rw [elems_len sgC_len], by simp, Nat.zero_le _⟩) (by omega) (by rw [elems_len sgC_len])
theorem SRow.new {l : List Sp} {n b : Nat} (hb : b = h.size) (hn : n = l.length) : SRow (h.push (.cells (elems spC l) 46)) (.slice (some ⟨b, 0, none⟩) n n) l := by
  subst hn hb
  exact Buf.row (f := 0) (.inr ⟨h.size, _, rfl, by rw [elems_len spC_len], by simp, Nat.zero_le _⟩) (by omega) (by rw [elems_len spC_len])
theorem segsT_runs {v : Value} {xs : List Sg} (hr : GRow h v xs) (hl : xs.length ≤ 10000) (hok : ∀ x ∈ xs, okG x) : Runs X ⟨f, []⟩ 21 [v] h (sv (rowT (xs.map segT))) h := by
  refine Runs_of rfl f21_is ?_
  simp only [f21r0, f21r1, f21b]
  repeat' (first
 | refine za ?_ | refine zb ?_ | refine zc ?_ | refine zd ?_ | refine ze ?_ | refine zf ?_ | refine zg ?_ | refine zh ?_ | (refine zi ?_; try refine RgD_plain rfl ?_) | refine w_drawn rfl ?_ | refine zj ?_ | refine zl ?_
 | ((first | apply zs | (apply zt; (focus rfl)) | (apply zu; (focus rfl)) | (apply zv; (focus rfl)) | apply zw | apply zx | apply zy | apply zB | apply zC | apply zD | apply zE | apply zF); (focus ((conv => lhs; simp (disch := omega) [-env0_get, bound, List.getElem?_cons_zero, List.getElem?_cons_succ, odt, odf, oip, oin, obt, obf, ont, onf, wrapI, owu, ow8, ow32, otd, oe0, oe1, oe2, oe3, oe4, oe5, oe6, otn, ot1, ot2, ot4]); first | done | rfl)); first | apply zk | (apply zn; (focus rfl); try (focus (first | rfl | (simp; done)))) | (apply zo; (focus rfl)) | apply gv_u | apply gv_tt | apply gv_ff | apply gv_ft | apply gv_tf | (apply gv_split <;> intro hc <;> try simp only [decide_eq_true_eq, decide_eq_false_iff_not, beq_iff_eq, beq_eq_false_iff_ne, bne_iff_ne, bne_eq_false_iff_eq, Bool.not_true, Bool.not_false, ne_eq] at hc) | exact (rowG_R hr hl hok))
 | (simp (disch := omega) only [thenQ_normal, thenQ_exit, thenQ_ret, blockQ_normal, blockQ_ret, blockQ_exit_same, blockQ_exit_ne]))
theorem spansT_runs {v : Value} {xs : List Sp} (hr : SRow h v xs) (hl : xs.length ≤ 10000) (hok : ∀ x ∈ xs, okS x) : Runs X ⟨f, []⟩ 23 [v] h (sv (rowT (xs.map boundT))) h := by
  refine Runs_of rfl f23_is ?_
  simp only [f23r0, f23r1, f23b]
  repeat' (first
 | refine za ?_ | refine zb ?_ | refine zc ?_ | refine zd ?_ | refine ze ?_ | refine zf ?_ | refine zg ?_ | refine zh ?_ | (refine zi ?_; try refine RgD_plain rfl ?_) | refine w_drawn rfl ?_ | refine zj ?_ | refine zl ?_
 | ((first | apply zs | (apply zt; (focus rfl)) | (apply zu; (focus rfl)) | (apply zv; (focus rfl)) | apply zw | apply zx | apply zy | apply zB | apply zC | apply zD | apply zE | apply zF); (focus ((conv => lhs; simp (disch := omega) [-env0_get, bound, List.getElem?_cons_zero, List.getElem?_cons_succ, odt, odf, oip, oin, obt, obf, ont, onf, wrapI, owu, ow8, ow32, otd, oe0, oe1, oe2, oe3, oe4, oe5, oe6, otn, ot1, ot2, ot4]); first | done | rfl)); first | apply zk | (apply zn; (focus rfl); try (focus (first | rfl | (simp; done)))) | (apply zo; (focus rfl)) | apply gv_u | apply gv_tt | apply gv_ff | apply gv_ft | apply gv_tf | (apply gv_split <;> intro hc <;> try simp only [decide_eq_true_eq, decide_eq_false_iff_not, beq_iff_eq, beq_eq_false_iff_ne, bne_iff_ne, bne_eq_false_iff_eq, Bool.not_true, Bool.not_false, ne_eq] at hc) | exact (rowS_R hr hl hok))
 | (simp (disch := omega) only [thenQ_normal, thenQ_exit, thenQ_ret, blockQ_normal, blockQ_ret, blockQ_exit_same, blockQ_exit_ne]))
theorem to_runs {a b v : Int} : Runs X ⟨f, []⟩ 46 [.int .i64 a, .int .i64 b, .int .i64 v] h (sgV ⟨⟨0, a, 0, b⟩, v⟩) h := by
  refine Runs_of rfl f46_is ?_
  simp only [f46r0, f46r1, f46b]
  repeat' (first
 | refine za ?_ | refine zb ?_ | refine zc ?_ | refine zd ?_ | refine ze ?_ | refine zf ?_ | refine zg ?_ | refine zh ?_ | (refine zi ?_; try refine RgD_plain rfl ?_) | refine w_drawn rfl ?_ | refine zj ?_ | refine zl ?_
 | ((first | apply zs | (apply zt; (focus rfl)) | (apply zu; (focus rfl)) | (apply zv; (focus rfl)) | apply zx | apply zy | apply zB | apply zC | apply zD | apply zE | apply zF); (focus ((conv => lhs; simp (disch := omega) [-env0_get, bound, List.getElem?_cons_zero, List.getElem?_cons_succ, odt, odf, oip, oin, obt, obf, ont, onf, wrapI, owu, ow8, ow32, otd, oe0, oe1, oe2, oe3, oe4, oe5, oe6, otn, ot1, ot2, ot4, sgV]); first | done | rfl)); first | apply zk | (apply zn; (focus rfl); try (focus (first | rfl | (simp [sgV]; done)))) | (apply zo; (focus rfl)) | apply gv_u | apply gv_tt | apply gv_ff | apply gv_ft | apply gv_tf | (apply gv_split <;> intro hc <;> try simp only [decide_eq_true_eq, decide_eq_false_iff_not, beq_iff_eq, beq_eq_false_iff_ne, bne_iff_ne, bne_eq_false_iff_eq, Bool.not_true, Bool.not_false, ne_eq] at hc))
 | (simp (disch := omega) only [thenQ_normal, thenQ_exit, thenQ_ret, blockQ_normal, blockQ_ret, blockQ_exit_same, blockQ_exit_ne]))
def tx1 : List UInt8 := [91, 49, 44, 53, 41, 61, 62, 51, 59, 91, 55, 44, 43, 105, 110, 102, 41, 61, 62, 45, 50]
def tx2 : List UInt8 := [91, 49, 44, 53, 41, 59, 91, 51, 44, 57, 41]
def tx3 : List UInt8 := [32, 40, 50, 44, 32, 52, 93, 32, 59, 32, 91, 49, 32, 44, 50, 41, 32]
def al1 : List Sg := [⟨⟨0, 1, 0, 5⟩, 3⟩, ⟨⟨0, 7, 1, 0⟩, -2⟩]
def al3 : List Sg := [⟨⟨0, 3, 0, 5⟩, 0⟩, ⟨⟨0, 1, 0, 2⟩, 0⟩]
theorem ev1 : rowR true false tx1 = (al1, 21, 0) := by kernel_rfl
theorem ev2 : rowR false false tx2 = ([], 6, 180) := by kernel_rfl
theorem ev3 : rowR false true tx3 = (al3, 17, 0) := by kernel_rfl
theorem ev4 : rowT (al1.map segT) = tx1 := by kernel_rfl
theorem al1_ok : ∀ x ∈ al1, okG x := by
  intro x hx; simp [al1] at hx; rcases hx with rfl | rfl <;> simp [okG, okS, okI]
theorem alive18_runs : Runs X ⟨f, []⟩ 12 [] h (.bool true) h := by
  refine Runs_of rfl f12_is ?_
  simp only [f12r0, f12r1, f12r2, f12r3, f12r4, f12r5, f12b]
  have hsz : h.size ≤ h.size := Nat.le_refl _
  repeat' (first
 | refine za ?_ | refine zb ?_ | refine zc ?_ | refine zd ?_ | refine ze ?_ | refine zf ?_ | refine zg ?_ | refine zh ?_ | (refine zi ?_; try refine RgD_plain rfl ?_) | refine w_drawn rfl ?_ | refine zj ?_ | refine zl ?_
 | ((first | apply zs | (apply zt; (focus rfl)) | (apply zu; (focus rfl)) | (apply zv; (focus rfl)) | apply zw | apply zx | apply zy | apply zB | apply zC | apply zD | apply zE | apply zF); (focus ((conv => lhs; simp (disch := omega) [-env0_get, bound, List.getElem?_cons_zero, List.getElem?_cons_succ, odt, odf, oip, oin, obt, obf, ont, onf, wrapI, owu, ow8, ow32, otd, oe0, oe1, oe2, oe3, oe4, oe5, oe6, otn, ot1, ot2, ot4, sgV]); first | done | rfl)); first | apply zk | (apply zn; (focus rfl); try (focus (first | rfl | (simp [sgV]; done)))) | (apply zo; (focus rfl)) | apply gv_u | apply gv_tt | apply gv_ff | apply gv_ft | apply gv_tf | (apply gv_split <;> intro hc <;> try simp only [decide_eq_true_eq, decide_eq_false_iff_not, beq_iff_eq, beq_eq_false_iff_ne, bne_iff_ne, bne_eq_false_iff_eq, Bool.not_true, Bool.not_false, ne_eq] at hc) | exact to_runs)
 | (simp (disch := omega) only [thenQ_normal, thenQ_exit, thenQ_ret, blockQ_normal, blockQ_ret, blockQ_exit_same, blockQ_exit_ne]))
  have R1 : GRow (h.push (.cells (elems sgC al1) 57)) (.slice (some ⟨h.size, 0, none⟩) 2 2) al1 := GRow.new rfl rfl
  have E1 : elems sgC al1 = [.int .i64 0, .int .i64 1, .int .i64 0, .int .i64 5, .int .i64 3, .int .i64 0, .int .i64 7, .int .i64 1, .int .i64 0, .int .i64 (-2)] := rfl
  rw [← E1]
  generalize hH1 : h.push (.cells (elems sgC al1) 57) = h1 at R1 ⊢
  have s1 : h1.size = h.size + 1 := by rw [← hH1]; simp
  clear hH1
  (apply zW; (focus ((conv => lhs; simp (disch := omega) [-env0_get, bound, List.getElem?_cons_zero, List.getElem?_cons_succ, odt, odf, oip, oin, obt, obf, ont, onf, wrapI, owu, ow8, ow32, otd, oe0, oe1, oe2, oe3, oe4, oe5, oe6, otn, ot1, ot2, ot4]); first | done | rfl)); (focus exact (readG_R (l := tx1) (by decide) (by omega)))); intro v2 h2 q2
  obtain ⟨w2, rfl, k2, R2⟩ := q2
  rw [ev1] at R2
  simp only [ev1]
  have s2 := k2.1
  have R12 := R1.keepB k2 (.inl rfl)
  repeat' (first
 | refine za ?_ | refine zb ?_ | refine zc ?_ | refine zd ?_ | refine ze ?_ | refine zf ?_ | refine zg ?_ | refine zh ?_ | (refine zi ?_; try refine RgD_plain rfl ?_) | refine w_drawn rfl ?_ | refine zj ?_ | refine zl ?_
 | ((first | apply zs | (apply zt; (focus rfl)) | (apply zu; (focus rfl)) | (apply zv; (focus rfl)) | apply zx | apply zy | apply zB | apply zC | apply zD | apply zE | apply zF); (focus ((conv => lhs; simp (disch := omega) [-env0_get, bound, List.getElem?_cons_zero, List.getElem?_cons_succ, odt, odf, oip, oin, obt, obf, ont, onf, wrapI, owu, ow8, ow32, otd, oe0, oe1, oe2, oe3, oe4, oe5, oe6, otn, ot1, ot2, ot4]); first | done | rfl)); first | apply zk | (apply zn; (focus rfl); try (focus (first | rfl | (simp; done)))) | (apply zo; (focus rfl)) | apply gv_u | apply gv_tt | apply gv_ff | apply gv_ft | apply gv_tf | (apply gv_split <;> intro hc <;> try simp only [decide_eq_true_eq, decide_eq_false_iff_not, beq_iff_eq, beq_eq_false_iff_ne, bne_iff_ne, bne_eq_false_iff_eq, Bool.not_true, Bool.not_false, ne_eq] at hc))
 | (simp (disch := omega) only [thenQ_normal, thenQ_exit, thenQ_ret, blockQ_normal, blockQ_ret, blockQ_exit_same, blockQ_exit_ne]))
  (apply zW; (focus ((conv => lhs; simp (disch := omega) [-env0_get, bound, List.getElem?_cons_zero, List.getElem?_cons_succ, odt, odf, oip, oin, obt, obf, ont, onf, wrapI, owu, ow8, ow32, otd, oe0, oe1, oe2, oe3, oe4, oe5, oe6, otn, ot1, ot2, ot4]); first | done | rfl)); (focus exact (readS_R (l := tx2) (by decide) (by omega)))); intro v3 h3 q3
  obtain ⟨w3, rfl, k3, R3⟩ := q3
  simp only [ev2]
  have s3 := k3.1
  have R13 := R12.keepB k3 (.inl rfl)
  have R23 := R2.keepB k3 (.inl rfl)
  repeat' (first
 | refine za ?_ | refine zb ?_ | refine zc ?_ | refine zd ?_ | refine ze ?_ | refine zf ?_ | refine zg ?_ | refine zh ?_ | (refine zi ?_; try refine RgD_plain rfl ?_) | refine w_drawn rfl ?_ | refine zj ?_ | refine zl ?_
 | ((first | apply zs | (apply zt; (focus rfl)) | (apply zu; (focus rfl)) | (apply zv; (focus rfl)) | apply zx | apply zy | apply zB | apply zC | apply zD | apply zE | apply zF); (focus ((conv => lhs; simp (disch := omega) [-env0_get, bound, List.getElem?_cons_zero, List.getElem?_cons_succ, odt, odf, oip, oin, obt, obf, ont, onf, wrapI, owu, ow8, ow32, otd, oe0, oe1, oe2, oe3, oe4, oe5, oe6, otn, ot1, ot2, ot4]); first | done | rfl)); first | apply zk | (apply zn; (focus rfl); try (focus (first | rfl | (simp; done)))) | (apply zo; (focus rfl)) | apply gv_u | apply gv_tt | apply gv_ff | apply gv_ft | apply gv_tf | (apply gv_split <;> intro hc <;> try simp only [decide_eq_true_eq, decide_eq_false_iff_not, beq_iff_eq, beq_eq_false_iff_ne, bne_iff_ne, bne_eq_false_iff_eq, Bool.not_true, Bool.not_false, ne_eq] at hc))
 | (simp (disch := omega) only [thenQ_normal, thenQ_exit, thenQ_ret, blockQ_normal, blockQ_ret, blockQ_exit_same, blockQ_exit_ne]))
  (apply zW; (focus ((conv => lhs; simp (disch := omega) [-env0_get, bound, List.getElem?_cons_zero, List.getElem?_cons_succ, odt, odf, oip, oin, obt, obf, ont, onf, wrapI, owu, ow8, ow32, otd, oe0, oe1, oe2, oe3, oe4, oe5, oe6, otn, ot1, ot2, ot4]); first | done | rfl)); (focus exact (looseS_R (l := tx3) (by decide) (by omega)))); intro v4 h4 q4
  obtain ⟨w4, rfl, k4, R4⟩ := q4
  rw [ev3] at R4
  simp only [ev3]
  have s4 := k4.1
  have R14 := R13.keepB k4 (.inl rfl)
  have R24 := R23.keepB k4 (.inl rfl)
  have c1 := fun f => segsT_runs (f := f) R14 (by decide) al1_ok
  rw [ev4] at c1
  have c2 := fun f => same14_runs (f := f) R24 R14 (by decide) (by decide)
  have R5 : SRow (h4.push (.cells (elems spC (al3.map (·.s))) 46)) (.slice (some ⟨h4.size, 0, none⟩) 2 2) (al3.map (·.s)) := SRow.new rfl rfl
  have R45 := R4.keepB ((KeepB.refl h4 none).push (.cells (elems spC (al3.map (·.s))) 46)) (.inl rfl)
  have c3 := fun f => same_runs (f := f) R45 R5 (by decide) (by decide)
  have E3 : elems spC (al3.map (·.s)) = [.int .i64 0, .int .i64 3, .int .i64 0, .int .i64 5, .int .i64 0, .int .i64 1, .int .i64 0, .int .i64 2] := rfl
  rw [E3] at c3
  simp only [decide_true] at c2 c3
  repeat' (first
 | refine za ?_ | refine zb ?_ | refine zc ?_ | refine zd ?_ | refine ze ?_ | refine zf ?_ | refine zg ?_ | refine zh ?_ | (refine zi ?_; try refine RgD_plain rfl ?_) | refine w_drawn rfl ?_ | refine zj ?_ | refine zl ?_
 | ((first | apply zs | (apply zt; (focus rfl)) | (apply zu; (focus rfl)) | (apply zv; (focus rfl)) | apply zw | apply zx | apply zy | apply zB | apply zC | apply zD | apply zE | apply zF); (focus ((conv => lhs; simp (disch := omega) [-env0_get, bound, List.getElem?_cons_zero, List.getElem?_cons_succ, odt, odf, oip, oin, obt, obf, ont, onf, wrapI, owu, ow8, ow32, otd, oe0, oe1, oe2, oe3, oe4, oe5, oe6, otn, ot1, ot2, ot4, sgV, binS, tx1]); first | done | rfl)); first | apply zk | (apply zn; (focus rfl); try (focus (first | rfl | (simp [sgV, binS, tx1]; done)))) | (apply zo; (focus rfl)) | apply gv_u | apply gv_tt | apply gv_ff | apply gv_ft | apply gv_tf | (apply gv_split <;> intro hc <;> try simp only [decide_eq_true_eq, decide_eq_false_iff_not, beq_iff_eq, beq_eq_false_iff_ne, bne_iff_ne, bne_eq_false_iff_eq, Bool.not_true, Bool.not_false, ne_eq] at hc) | exact to_runs | exact (c1 _) | exact (c2 _) | exact (c3 _))
 | (simp (disch := omega) only [thenQ_normal, thenQ_exit, thenQ_ret, blockQ_normal, blockQ_ret, blockQ_exit_same, blockQ_exit_ne]))
end Go.Proofs.Ytlgbeekhaoiggaa
end

section
namespace Go.Proofs.Ytlgbeekhaoiggaa
open Go.AM
set_option maxHeartbeats 4000000
variable {f : Nat} {h : Heap}
theorem spans18_R {v : Value} {xs : List Sg} (hr : GRow h v xs) (hl : xs.length ≤ 3518437208832) (hf : f ≤ h.size) : callR X ⟨f, []⟩ 17 [v] h fun v' h' => KeepB h h' none ∧ SRow h' v' (xs.map (·.s)) := by
  refine callR_of rfl f17_is ?_
  simp only [f17r0, f17r1, f17b]
  repeat' (first
 | refine za ?_ | refine zb ?_ | refine zc ?_ | refine zd ?_ | refine ze ?_ | refine zf ?_ | refine zg ?_ | refine zh ?_ | (refine zi ?_; try refine RgD_plain rfl ?_) | refine w_drawn rfl ?_ | refine zj ?_ | refine zl ?_
 | ((first | apply zs | (apply zt; (focus rfl)) | (apply zu; (focus rfl)) | (apply zv; (focus rfl)) | apply zx | apply zy | apply zB | apply zC | apply zD | apply zE | apply zF); (focus ((conv => lhs; simp (disch := omega) [-env0_get, bound, List.getElem?_cons_zero, List.getElem?_cons_succ, odt, odf, oip, oin, obt, obf, ont, onf, wrapI, owu, ow8, ow32, otd, oe0, oe1, oe2, oe3, oe4, oe5, oe6, otn, ot1, ot2, ot4]); first | done | rfl)); first | apply zk | (apply zn; (focus rfl); try (focus (first | rfl | (simp; done)))) | (apply zo; (focus rfl)) | apply gv_u | apply gv_tt | apply gv_ff | apply gv_ft | apply gv_tf | (apply gv_split <;> intro hc <;> try simp only [decide_eq_true_eq, decide_eq_false_iff_not, beq_iff_eq, beq_eq_false_iff_ne, bne_iff_ne, bne_eq_false_iff_eq, Bool.not_true, Bool.not_false, ne_eq] at hc))
 | (simp (disch := omega) only [thenQ_normal, thenQ_exit, thenQ_ret, blockQ_normal, blockQ_ret, blockQ_exit_same, blockQ_exit_ne]))
  (apply zW; (focus ((conv => lhs; simp (disch := omega) [-env0_get, bound, List.getElem?_cons_zero, List.getElem?_cons_succ, odt, odf, oip, oin, obt, obf, ont, onf, wrapI, owu, ow8, ow32, otd, oe0, oe1, oe2, oe3, oe4, oe5, oe6, otn, ot1, ot2, ot4]); first | done | rfl)); (focus exact (spans_runs hr hl (Nat.le_refl _)))); intro v1 h1 q1
  obtain ⟨k1, b1, r1⟩ := q1
  obtain ⟨v', h2, q1, q2, q3, q4⟩ := finish_buf (f := f) (n := xs.length) b1 (by omega) (by rw [elems_len spC_len]; simp) hf (all_below_ints (elems_ints spC_ints _))
  repeat' (first
 | refine za ?_ | refine zb ?_ | refine zc ?_ | refine zd ?_ | refine ze ?_ | refine zf ?_ | refine zg ?_ | refine zh ?_ | (refine zi ?_; try refine RgD_plain rfl ?_) | refine w_drawn rfl ?_ | refine zj ?_ | refine zl ?_
 | ((first | apply zs | (apply zt; (focus rfl)) | (apply zu; (focus rfl)) | (apply zv; (focus rfl)) | apply zx | apply zy | apply zB | apply zC | apply zD | apply zE | apply zF); (focus ((conv => lhs; simp (disch := omega) [-env0_get, bound, List.getElem?_cons_zero, List.getElem?_cons_succ, odt, odf, oip, oin, obt, obf, ont, onf, wrapI, owu, ow8, ow32, otd, oe0, oe1, oe2, oe3, oe4, oe5, oe6, otn, ot1, ot2, ot4]); first | done | rfl)); first | apply zk | (apply zn; (focus rfl); try (focus (first | rfl | (simp; done)))) | (apply zo; (focus rfl)) | apply gv_u | apply gv_tt | apply gv_ff | apply gv_ft | apply gv_tf | (apply gv_split <;> intro hc <;> try simp only [decide_eq_true_eq, decide_eq_false_iff_not, beq_iff_eq, beq_eq_false_iff_ne, bne_iff_ne, bne_eq_false_iff_eq, Bool.not_true, Bool.not_false, ne_eq] at hc))
 | (simp (disch := omega) only [thenQ_normal, thenQ_exit, thenQ_ret, blockQ_normal, blockQ_ret, blockQ_exit_same, blockQ_exit_ne]))
  exact w_endr (vs := [v1]) (by simp) q1 ⟨q2, by show Row h2 46 4 v' (xs.map _).length _; rw [List.length_map]; exact q4⟩
end Go.Proofs.Ytlgbeekhaoiggaa
end
