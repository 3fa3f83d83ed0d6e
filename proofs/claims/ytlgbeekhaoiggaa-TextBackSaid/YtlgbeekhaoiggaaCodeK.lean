import Derived.Test.YtlgbeekhaoiggaaCodeJ
set_option linter.all false
section
namespace Go.Proofs.Ytlgbeekhaoiggaa
open Go.AM
set_option maxHeartbeats 4000000
variable {f : Nat} {h : Heap}
theorem elems_map_s : ∀ xs : List Sg, elems (fun x : Sg => spC x.s) xs = elems spC (xs.map (·.s))
  | [] => rfl
  | x :: xs => by simp [elems_map_s xs]
theorem tS_R {p : Nat} {l : List UInt8} {lo : Bool} (hp : h[p]? = some (tdO l lo 0)) (hf : f ≤ p) (hfs : f ≤ h.size) (hl : l.length ≤ 900000) :
    callR X ⟨f, []⟩ 47 [ptr p] h fun v h' => ∃ w, v = triR w (rowR false lo l).2.1 (rowR false lo l).2.2 ∧ Buf f h' 46 4 w (elems (fun x : Sg => spC x.s) (rowR false lo l).1) ∧ KeepB h h' (some p) := by
  refine callR_of rfl f47_is ?_
  simp only [f47r0, f47r1, f47b]
  repeat' (first
 | refine za ?_ | refine zb ?_ | refine zc ?_ | refine zd ?_ | refine ze ?_ | refine zf ?_ | refine zg ?_ | refine zh ?_ | (refine zi ?_; try refine RgD_plain rfl ?_) | refine w_drawn rfl ?_ | refine zj ?_ | refine zl ?_
 | ((first | apply zs | (apply zt; (focus rfl)) | (apply zu; (focus rfl)) | (apply zv; (focus rfl)) | apply zx | apply zy | apply zB | apply zC | apply zD | apply zE | apply zF); (focus ((conv => lhs; simp (disch := omega) [-env0_get, bound, List.getElem?_cons_zero, List.getElem?_cons_succ, odt, odf, oip, oin, obt, obf, ont, onf, wrapI, owu, ow8, ow32, otd, oe0, oe1, oe2, oe3, oe4, oe5, oe6, otn, ot1, ot2, ot4]); first | done | rfl)); first | apply zk | (apply zn; (focus rfl); try (focus (first | rfl | (simp; done)))) | (apply zo; (focus rfl)) | apply gv_u | apply gv_tt | apply gv_ff | apply gv_ft | apply gv_tf | (apply gv_split <;> intro hc <;> try simp only [decide_eq_true_eq, decide_eq_false_iff_not, beq_iff_eq, beq_eq_false_iff_ne, bne_iff_ne, bne_eq_false_iff_eq, Bool.not_true, Bool.not_false, ne_eq] at hc))
 | (simp (disch := omega) only [thenQ_normal, thenQ_exit, thenQ_ret, blockQ_normal, blockQ_ret, blockQ_exit_same, blockQ_exit_ne]))
  (apply zW; (focus ((conv => lhs; simp (disch := omega) [-env0_get, bound, List.getElem?_cons_zero, List.getElem?_cons_succ, odt, odf, oip, oin, obt, obf, ont, onf, wrapI, owu, ow8, ow32, otd, oe0, oe1, oe2, oe3, oe4, oe5, oe6, otn, ot1, ot2, ot4]); first | done | rfl)); (focus exact (allS_R hp hf hfs hl))); intro v1 h1 q1
  obtain ⟨w, rfl, q2, q3⟩ := q1
  repeat' (first
 | refine za ?_ | refine zb ?_ | refine zc ?_ | refine zd ?_ | refine ze ?_ | refine zf ?_ | refine zg ?_ | refine zh ?_ | (refine zi ?_; try refine RgD_plain rfl ?_) | refine w_drawn rfl ?_ | refine zj ?_ | refine zl ?_
 | ((first | apply zs | (apply zt; (focus rfl)) | (apply zu; (focus rfl)) | (apply zv; (focus rfl)) | apply zx | apply zy | apply zB | apply zC | apply zD | apply zE | apply zF); (focus ((conv => lhs; simp (disch := omega) [-env0_get, bound, List.getElem?_cons_zero, List.getElem?_cons_succ, odt, odf, oip, oin, obt, obf, ont, onf, wrapI, owu, ow8, ow32, otd, oe0, oe1, oe2, oe3, oe4, oe5, oe6, otn, ot1, ot2, ot4]); first | done | rfl)); first | apply zk | (apply zn; (focus rfl); try (focus (first | rfl | (simp; done)))) | (apply zo; (focus rfl)) | apply gv_u | apply gv_tt | apply gv_ff | apply gv_ft | apply gv_tf | (apply gv_split <;> intro hc <;> try simp only [decide_eq_true_eq, decide_eq_false_iff_not, beq_iff_eq, beq_eq_false_iff_ne, bne_iff_ne, bne_eq_false_iff_eq, Bool.not_true, Bool.not_false, ne_eq] at hc))
 | (simp (disch := omega) only [thenQ_normal, thenQ_exit, thenQ_ret, blockQ_normal, blockQ_ret, blockQ_exit_same, blockQ_exit_ne]))
  exact ⟨w, rfl, q2, q3⟩
theorem readS_R {l : List UInt8} (hl : l.length ≤ 900000) (hf : f ≤ h.size) :
    callR X ⟨f, []⟩ 13 [sv l] h fun v h' => ∃ w, v = triR w (rowR false false l).2.1 (rowR false false l).2.2 ∧ KeepB h h' none ∧ SRow h' w ((rowR false false l).1.map (·.s)) := by
  refine callR_of rfl f13_is ?_
  simp only [f13r0, f13r1, f13b]
  repeat' (first
 | refine za ?_ | refine zb ?_ | refine zc ?_ | refine zd ?_ | refine ze ?_ | refine zf ?_ | refine zg ?_ | refine zh ?_ | (refine zi ?_; try refine RgD_plain rfl ?_) | refine w_drawn rfl ?_ | refine zj ?_ | refine zl ?_
 | ((first | apply zs | (apply zt; (focus rfl)) | (apply zu; (focus rfl)) | (apply zv; (focus rfl)) | apply zx | apply zy | apply zB | apply zC | apply zD | apply zE | apply zF); (focus ((conv => lhs; simp (disch := omega) [-env0_get, bound, List.getElem?_cons_zero, List.getElem?_cons_succ, odt, odf, oip, oin, obt, obf, ont, onf, wrapI, owu, ow8, ow32, otd, oe0, oe1, oe2, oe3, oe4, oe5, oe6, otn, ot1, ot2, ot4]); first | done | rfl)); first | apply zk | (apply zn; (focus rfl); try (focus (first | rfl | (simp; done)))) | (apply zo; (focus rfl)) | apply gv_u | apply gv_tt | apply gv_ff | apply gv_ft | apply gv_tf | (apply gv_split <;> intro hc <;> try simp only [decide_eq_true_eq, decide_eq_false_iff_not, beq_iff_eq, beq_eq_false_iff_ne, bne_iff_ne, bne_eq_false_iff_eq, Bool.not_true, Bool.not_false, ne_eq] at hc))
 | (simp (disch := omega) only [thenQ_normal, thenQ_exit, thenQ_ret, blockQ_normal, blockQ_ret, blockQ_exit_same, blockQ_exit_ne]))
  (apply zW; (focus ((conv => lhs; simp (disch := omega) [-env0_get, bound, List.getElem?_cons_zero, List.getElem?_cons_succ, odt, odf, oip, oin, obt, obf, ont, onf, wrapI, owu, ow8, ow32, otd, oe0, oe1, oe2, oe3, oe4, oe5, oe6, otn, ot1, ot2, ot4]); first | done | rfl)); (focus exact (tS_R (p := h.size) (l := l) (lo := false) (by simp [tdO]) (Nat.le_refl _) (by simp) hl))); intro v1 h1 q1
  obtain ⟨w, rfl, q2, q3⟩ := q1
  obtain ⟨w', h2, r1, r2, r3, r4⟩ := finish_tup (f := f) (n := (rowR false false l).1.length) (as_ := []) (bs := [.int .i64 (rowR false false l).2.1, .int .i64 (rowR false false l).2.2]) q2 (by omega) (by rw [lenS]) hf (all_below_ints (elems_ints (fun (x : Sg) => spC_ints x.s) _)) (by simp) (by intro v hv; simp at hv; rcases hv with rfl | rfl <;> exact ⟨_, _, rfl⟩)
  repeat' (first
 | refine za ?_ | refine zb ?_ | refine zc ?_ | refine zd ?_ | refine ze ?_ | refine zf ?_ | refine zg ?_ | refine zh ?_ | (refine zi ?_; try refine RgD_plain rfl ?_) | refine w_drawn rfl ?_ | refine zj ?_ | refine zl ?_
 | ((first | apply zs | (apply zt; (focus rfl)) | (apply zu; (focus rfl)) | (apply zv; (focus rfl)) | apply zx | apply zy | apply zB | apply zC | apply zD | apply zE | apply zF); (focus ((conv => lhs; simp (disch := omega) [-env0_get, bound, List.getElem?_cons_zero, List.getElem?_cons_succ, odt, odf, oip, oin, obt, obf, ont, onf, wrapI, owu, ow8, ow32, otd, oe0, oe1, oe2, oe3, oe4, oe5, oe6, otn, ot1, ot2, ot4]); first | done | rfl)); first | apply zk | (apply zn; (focus rfl); try (focus (first | rfl | (simp; done)))) | (apply zo; (focus rfl)) | apply gv_u | apply gv_tt | apply gv_ff | apply gv_ft | apply gv_tf | (apply gv_split <;> intro hc <;> try simp only [decide_eq_true_eq, decide_eq_false_iff_not, beq_iff_eq, beq_eq_false_iff_ne, bne_iff_ne, bne_eq_false_iff_eq, Bool.not_true, Bool.not_false, ne_eq] at hc))
 | (simp (disch := omega) only [thenQ_normal, thenQ_exit, thenQ_ret, blockQ_normal, blockQ_ret, blockQ_exit_same, blockQ_exit_ne]))
  exact w_endr (vs := [w, .int .i64 (rowR false false l).2.1, .int .i64 (rowR false false l).2.2]) (by simp) r1 ⟨w', rfl, r2, by show Row h2 46 4 w' ((rowR false false l).1.map (·.s)).length _; rw [List.length_map, ← elems_map_s]; exact r4⟩
theorem looseS_R {l : List UInt8} (hl : l.length ≤ 900000) (hf : f ≤ h.size) :
    callR X ⟨f, []⟩ 19 [sv l] h fun v h' => ∃ w, v = triR w (rowR false true l).2.1 (rowR false true l).2.2 ∧ KeepB h h' none ∧ SRow h' w ((rowR false true l).1.map (·.s)) := by
  refine callR_of rfl f19_is ?_
  simp only [f19r0, f19r1, f19b]
  repeat' (first
 | refine za ?_ | refine zb ?_ | refine zc ?_ | refine zd ?_ | refine ze ?_ | refine zf ?_ | refine zg ?_ | refine zh ?_ | (refine zi ?_; try refine RgD_plain rfl ?_) | refine w_drawn rfl ?_ | refine zj ?_ | refine zl ?_
 | ((first | apply zs | (apply zt; (focus rfl)) | (apply zu; (focus rfl)) | (apply zv; (focus rfl)) | apply zx | apply zy | apply zB | apply zC | apply zD | apply zE | apply zF); (focus ((conv => lhs; simp (disch := omega) [-env0_get, bound, List.getElem?_cons_zero, List.getElem?_cons_succ, odt, odf, oip, oin, obt, obf, ont, onf, wrapI, owu, ow8, ow32, otd, oe0, oe1, oe2, oe3, oe4, oe5, oe6, otn, ot1, ot2, ot4]); first | done | rfl)); first | apply zk | (apply zn; (focus rfl); try (focus (first | rfl | (simp; done)))) | (apply zo; (focus rfl)) | apply gv_u | apply gv_tt | apply gv_ff | apply gv_ft | apply gv_tf | (apply gv_split <;> intro hc <;> try simp only [decide_eq_true_eq, decide_eq_false_iff_not, beq_iff_eq, beq_eq_false_iff_ne, bne_iff_ne, bne_eq_false_iff_eq, Bool.not_true, Bool.not_false, ne_eq] at hc))
 | (simp (disch := omega) only [thenQ_normal, thenQ_exit, thenQ_ret, blockQ_normal, blockQ_ret, blockQ_exit_same, blockQ_exit_ne]))
  (apply zW; (focus ((conv => lhs; simp (disch := omega) [-env0_get, bound, List.getElem?_cons_zero, List.getElem?_cons_succ, odt, odf, oip, oin, obt, obf, ont, onf, wrapI, owu, ow8, ow32, otd, oe0, oe1, oe2, oe3, oe4, oe5, oe6, otn, ot1, ot2, ot4]); first | done | rfl)); (focus exact (tS_R (p := h.size) (l := l) (lo := true) (by simp [tdO]) (Nat.le_refl _) (by simp) hl))); intro v1 h1 q1
  obtain ⟨w, rfl, q2, q3⟩ := q1
  obtain ⟨w', h2, r1, r2, r3, r4⟩ := finish_tup (f := f) (n := (rowR false true l).1.length) (as_ := []) (bs := [.int .i64 (rowR false true l).2.1, .int .i64 (rowR false true l).2.2]) q2 (by omega) (by rw [lenS]) hf (all_below_ints (elems_ints (fun (x : Sg) => spC_ints x.s) _)) (by simp) (by intro v hv; simp at hv; rcases hv with rfl | rfl <;> exact ⟨_, _, rfl⟩)
  repeat' (first
 | refine za ?_ | refine zb ?_ | refine zc ?_ | refine zd ?_ | refine ze ?_ | refine zf ?_ | refine zg ?_ | refine zh ?_ | (refine zi ?_; try refine RgD_plain rfl ?_) | refine w_drawn rfl ?_ | refine zj ?_ | refine zl ?_
 | ((first | apply zs | (apply zt; (focus rfl)) | (apply zu; (focus rfl)) | (apply zv; (focus rfl)) | apply zx | apply zy | apply zB | apply zC | apply zD | apply zE | apply zF); (focus ((conv => lhs; simp (disch := omega) [-env0_get, bound, List.getElem?_cons_zero, List.getElem?_cons_succ, odt, odf, oip, oin, obt, obf, ont, onf, wrapI, owu, ow8, ow32, otd, oe0, oe1, oe2, oe3, oe4, oe5, oe6, otn, ot1, ot2, ot4]); first | done | rfl)); first | apply zk | (apply zn; (focus rfl); try (focus (first | rfl | (simp; done)))) | (apply zo; (focus rfl)) | apply gv_u | apply gv_tt | apply gv_ff | apply gv_ft | apply gv_tf | (apply gv_split <;> intro hc <;> try simp only [decide_eq_true_eq, decide_eq_false_iff_not, beq_iff_eq, beq_eq_false_iff_ne, bne_iff_ne, bne_eq_false_iff_eq, Bool.not_true, Bool.not_false, ne_eq] at hc))
 | (simp (disch := omega) only [thenQ_normal, thenQ_exit, thenQ_ret, blockQ_normal, blockQ_ret, blockQ_exit_same, blockQ_exit_ne]))
  exact w_endr (vs := [w, .int .i64 (rowR false true l).2.1, .int .i64 (rowR false true l).2.2]) (by simp) r1 ⟨w', rfl, r2, by show Row h2 46 4 w' ((rowR false true l).1.map (·.s)).length _; rw [List.length_map, ← elems_map_s]; exact r4⟩
theorem tG_R {p : Nat} {l : List UInt8} {lo : Bool} (hp : h[p]? = some (tdO l lo 0)) (hf : f ≤ p) (hfs : f ≤ h.size) (hl : l.length ≤ 900000) :
    callR X ⟨f, []⟩ 50 [ptr p] h fun v h' => ∃ w, v = triR w (rowR true lo l).2.1 (rowR true lo l).2.2 ∧ Buf f h' 57 5 w (elems sgC (rowR true lo l).1) ∧ KeepB h h' (some p) := by
  refine callR_of rfl f50_is ?_
  simp only [f50r0, f50r1, f50b]
  repeat' (first
 | refine za ?_ | refine zb ?_ | refine zc ?_ | refine zd ?_ | refine ze ?_ | refine zf ?_ | refine zg ?_ | refine zh ?_ | (refine zi ?_; try refine RgD_plain rfl ?_) | refine w_drawn rfl ?_ | refine zj ?_ | refine zl ?_
 | ((first | apply zs | (apply zt; (focus rfl)) | (apply zu; (focus rfl)) | (apply zv; (focus rfl)) | apply zx | apply zy | apply zB | apply zC | apply zD | apply zE | apply zF); (focus ((conv => lhs; simp (disch := omega) [-env0_get, bound, List.getElem?_cons_zero, List.getElem?_cons_succ, odt, odf, oip, oin, obt, obf, ont, onf, wrapI, owu, ow8, ow32, otd, oe0, oe1, oe2, oe3, oe4, oe5, oe6, otn, ot1, ot2, ot4]); first | done | rfl)); first | apply zk | (apply zn; (focus rfl); try (focus (first | rfl | (simp; done)))) | (apply zo; (focus rfl)) | apply gv_u | apply gv_tt | apply gv_ff | apply gv_ft | apply gv_tf | (apply gv_split <;> intro hc <;> try simp only [decide_eq_true_eq, decide_eq_false_iff_not, beq_iff_eq, beq_eq_false_iff_ne, bne_iff_ne, bne_eq_false_iff_eq, Bool.not_true, Bool.not_false, ne_eq] at hc))
 | (simp (disch := omega) only [thenQ_normal, thenQ_exit, thenQ_ret, blockQ_normal, blockQ_ret, blockQ_exit_same, blockQ_exit_ne]))
  (apply zW; (focus ((conv => lhs; simp (disch := omega) [-env0_get, bound, List.getElem?_cons_zero, List.getElem?_cons_succ, odt, odf, oip, oin, obt, obf, ont, onf, wrapI, owu, ow8, ow32, otd, oe0, oe1, oe2, oe3, oe4, oe5, oe6, otn, ot1, ot2, ot4]); first | done | rfl)); (focus exact (allG_R hp hf hfs hl))); intro v1 h1 q1
  obtain ⟨w, rfl, q2, q3⟩ := q1
  repeat' (first
 | refine za ?_ | refine zb ?_ | refine zc ?_ | refine zd ?_ | refine ze ?_ | refine zf ?_ | refine zg ?_ | refine zh ?_ | (refine zi ?_; try refine RgD_plain rfl ?_) | refine w_drawn rfl ?_ | refine zj ?_ | refine zl ?_
 | ((first | apply zs | (apply zt; (focus rfl)) | (apply zu; (focus rfl)) | (apply zv; (focus rfl)) | apply zx | apply zy | apply zB | apply zC | apply zD | apply zE | apply zF); (focus ((conv => lhs; simp (disch := omega) [-env0_get, bound, List.getElem?_cons_zero, List.getElem?_cons_succ, odt, odf, oip, oin, obt, obf, ont, onf, wrapI, owu, ow8, ow32, otd, oe0, oe1, oe2, oe3, oe4, oe5, oe6, otn, ot1, ot2, ot4]); first | done | rfl)); first | apply zk | (apply zn; (focus rfl); try (focus (first | rfl | (simp; done)))) | (apply zo; (focus rfl)) | apply gv_u | apply gv_tt | apply gv_ff | apply gv_ft | apply gv_tf | (apply gv_split <;> intro hc <;> try simp only [decide_eq_true_eq, decide_eq_false_iff_not, beq_iff_eq, beq_eq_false_iff_ne, bne_iff_ne, bne_eq_false_iff_eq, Bool.not_true, Bool.not_false, ne_eq] at hc))
 | (simp (disch := omega) only [thenQ_normal, thenQ_exit, thenQ_ret, blockQ_normal, blockQ_ret, blockQ_exit_same, blockQ_exit_ne]))
  exact ⟨w, rfl, q2, q3⟩
theorem readG_R {l : List UInt8} (hl : l.length ≤ 900000) (hf : f ≤ h.size) :
    callR X ⟨f, []⟩ 15 [sv l] h fun v h' => ∃ w, v = triR w (rowR true false l).2.1 (rowR true false l).2.2 ∧ KeepB h h' none ∧ GRow h' w (rowR true false l).1 := by
  refine callR_of rfl f15_is ?_
  simp only [f15r0, f15r1, f15b]
  repeat' (first
 | refine za ?_ | refine zb ?_ | refine zc ?_ | refine zd ?_ | refine ze ?_ | refine zf ?_ | refine zg ?_ | refine zh ?_ | (refine zi ?_; try refine RgD_plain rfl ?_) | refine w_drawn rfl ?_ | refine zj ?_ | refine zl ?_
 | ((first | apply zs | (apply zt; (focus rfl)) | (apply zu; (focus rfl)) | (apply zv; (focus rfl)) | apply zx | apply zy | apply zB | apply zC | apply zD | apply zE | apply zF); (focus ((conv => lhs; simp (disch := omega) [-env0_get, bound, List.getElem?_cons_zero, List.getElem?_cons_succ, odt, odf, oip, oin, obt, obf, ont, onf, wrapI, owu, ow8, ow32, otd, oe0, oe1, oe2, oe3, oe4, oe5, oe6, otn, ot1, ot2, ot4]); first | done | rfl)); first | apply zk | (apply zn; (focus rfl); try (focus (first | rfl | (simp; done)))) | (apply zo; (focus rfl)) | apply gv_u | apply gv_tt | apply gv_ff | apply gv_ft | apply gv_tf | (apply gv_split <;> intro hc <;> try simp only [decide_eq_true_eq, decide_eq_false_iff_not, beq_iff_eq, beq_eq_false_iff_ne, bne_iff_ne, bne_eq_false_iff_eq, Bool.not_true, Bool.not_false, ne_eq] at hc))
 | (simp (disch := omega) only [thenQ_normal, thenQ_exit, thenQ_ret, blockQ_normal, blockQ_ret, blockQ_exit_same, blockQ_exit_ne]))
  (apply zW; (focus ((conv => lhs; simp (disch := omega) [-env0_get, bound, List.getElem?_cons_zero, List.getElem?_cons_succ, odt, odf, oip, oin, obt, obf, ont, onf, wrapI, owu, ow8, ow32, otd, oe0, oe1, oe2, oe3, oe4, oe5, oe6, otn, ot1, ot2, ot4]); first | done | rfl)); (focus exact (tG_R (p := h.size) (l := l) (lo := false) (by simp [tdO]) (Nat.le_refl _) (by simp) hl))); intro v1 h1 q1
  obtain ⟨w, rfl, q2, q3⟩ := q1
  obtain ⟨w', h2, r1, r2, r3, r4⟩ := finish_tup (f := f) (n := (rowR true false l).1.length) (as_ := []) (bs := [.int .i64 (rowR true false l).2.1, .int .i64 (rowR true false l).2.2]) q2 (by omega) (by rw [lenG]) hf (all_below_ints (elems_ints sgC_ints _)) (by simp) (by intro v hv; simp at hv; rcases hv with rfl | rfl <;> exact ⟨_, _, rfl⟩)
  repeat' (first
 | refine za ?_ | refine zb ?_ | refine zc ?_ | refine zd ?_ | refine ze ?_ | refine zf ?_ | refine zg ?_ | refine zh ?_ | (refine zi ?_; try refine RgD_plain rfl ?_) | refine w_drawn rfl ?_ | refine zj ?_ | refine zl ?_
 | ((first | apply zs | (apply zt; (focus rfl)) | (apply zu; (focus rfl)) | (apply zv; (focus rfl)) | apply zx | apply zy | apply zB | apply zC | apply zD | apply zE | apply zF); (focus ((conv => lhs; simp (disch := omega) [-env0_get, bound, List.getElem?_cons_zero, List.getElem?_cons_succ, odt, odf, oip, oin, obt, obf, ont, onf, wrapI, owu, ow8, ow32, otd, oe0, oe1, oe2, oe3, oe4, oe5, oe6, otn, ot1, ot2, ot4]); first | done | rfl)); first | apply zk | (apply zn; (focus rfl); try (focus (first | rfl | (simp; done)))) | (apply zo; (focus rfl)) | apply gv_u | apply gv_tt | apply gv_ff | apply gv_ft | apply gv_tf | (apply gv_split <;> intro hc <;> try simp only [decide_eq_true_eq, decide_eq_false_iff_not, beq_iff_eq, beq_eq_false_iff_ne, bne_iff_ne, bne_eq_false_iff_eq, Bool.not_true, Bool.not_false, ne_eq] at hc))
 | (simp (disch := omega) only [thenQ_normal, thenQ_exit, thenQ_ret, blockQ_normal, blockQ_ret, blockQ_exit_same, blockQ_exit_ne]))
  exact w_endr (vs := [w, .int .i64 (rowR true false l).2.1, .int .i64 (rowR true false l).2.2]) (by simp) r1 ⟨w', rfl, r2, r4⟩
theorem looseG_R {l : List UInt8} (hl : l.length ≤ 900000) (hf : f ≤ h.size) :
    callR X ⟨f, []⟩ 20 [sv l] h fun v h' => ∃ w, v = triR w (rowR true true l).2.1 (rowR true true l).2.2 ∧ KeepB h h' none ∧ GRow h' w (rowR true true l).1 := by
  refine callR_of rfl f20_is ?_
  simp only [f20r0, f20r1, f20b]
  repeat' (first
 | refine za ?_ | refine zb ?_ | refine zc ?_ | refine zd ?_ | refine ze ?_ | refine zf ?_ | refine zg ?_ | refine zh ?_ | (refine zi ?_; try refine RgD_plain rfl ?_) | refine w_drawn rfl ?_ | refine zj ?_ | refine zl ?_
 | ((first | apply zs | (apply zt; (focus rfl)) | (apply zu; (focus rfl)) | (apply zv; (focus rfl)) | apply zx | apply zy | apply zB | apply zC | apply zD | apply zE | apply zF); (focus ((conv => lhs; simp (disch := omega) [-env0_get, bound, List.getElem?_cons_zero, List.getElem?_cons_succ, odt, odf, oip, oin, obt, obf, ont, onf, wrapI, owu, ow8, ow32, otd, oe0, oe1, oe2, oe3, oe4, oe5, oe6, otn, ot1, ot2, ot4]); first | done | rfl)); first | apply zk | (apply zn; (focus rfl); try (focus (first | rfl | (simp; done)))) | (apply zo; (focus rfl)) | apply gv_u | apply gv_tt | apply gv_ff | apply gv_ft | apply gv_tf | (apply gv_split <;> intro hc <;> try simp only [decide_eq_true_eq, decide_eq_false_iff_not, beq_iff_eq, beq_eq_false_iff_ne, bne_iff_ne, bne_eq_false_iff_eq, Bool.not_true, Bool.not_false, ne_eq] at hc))
 | (simp (disch := omega) only [thenQ_normal, thenQ_exit, thenQ_ret, blockQ_normal, blockQ_ret, blockQ_exit_same, blockQ_exit_ne]))
  (apply zW; (focus ((conv => lhs; simp (disch := omega) [-env0_get, bound, List.getElem?_cons_zero, List.getElem?_cons_succ, odt, odf, oip, oin, obt, obf, ont, onf, wrapI, owu, ow8, ow32, otd, oe0, oe1, oe2, oe3, oe4, oe5, oe6, otn, ot1, ot2, ot4]); first | done | rfl)); (focus exact (tG_R (p := h.size) (l := l) (lo := true) (by simp [tdO]) (Nat.le_refl _) (by simp) hl))); intro v1 h1 q1
  obtain ⟨w, rfl, q2, q3⟩ := q1
  obtain ⟨w', h2, r1, r2, r3, r4⟩ := finish_tup (f := f) (n := (rowR true true l).1.length) (as_ := []) (bs := [.int .i64 (rowR true true l).2.1, .int .i64 (rowR true true l).2.2]) q2 (by omega) (by rw [lenG]) hf (all_below_ints (elems_ints sgC_ints _)) (by simp) (by intro v hv; simp at hv; rcases hv with rfl | rfl <;> exact ⟨_, _, rfl⟩)
  repeat' (first
 | refine za ?_ | refine zb ?_ | refine zc ?_ | refine zd ?_ | refine ze ?_ | refine zf ?_ | refine zg ?_ | refine zh ?_ | (refine zi ?_; try refine RgD_plain rfl ?_) | refine w_drawn rfl ?_ | refine zj ?_ | refine zl ?_
 | ((first | apply zs | (apply zt; (focus rfl)) | (apply zu; (focus rfl)) | (apply zv; (focus rfl)) | apply zx | apply zy | apply zB | apply zC | apply zD | apply zE | apply zF); (focus ((conv => lhs; simp (disch := omega) [-env0_get, bound, List.getElem?_cons_zero, List.getElem?_cons_succ, odt, odf, oip, oin, obt, obf, ont, onf, wrapI, owu, ow8, ow32, otd, oe0, oe1, oe2, oe3, oe4, oe5, oe6, otn, ot1, ot2, ot4]); first | done | rfl)); first | apply zk | (apply zn; (focus rfl); try (focus (first | rfl | (simp; done)))) | (apply zo; (focus rfl)) | apply gv_u | apply gv_tt | apply gv_ff | apply gv_ft | apply gv_tf | (apply gv_split <;> intro hc <;> try simp only [decide_eq_true_eq, decide_eq_false_iff_not, beq_iff_eq, beq_eq_false_iff_ne, bne_iff_ne, bne_eq_false_iff_eq, Bool.not_true, Bool.not_false, ne_eq] at hc))
 | (simp (disch := omega) only [thenQ_normal, thenQ_exit, thenQ_ret, blockQ_normal, blockQ_ret, blockQ_exit_same, blockQ_exit_ne]))
  exact w_endr (vs := [w, .int .i64 (rowR true true l).2.1, .int .i64 (rowR true true l).2.2]) (by simp) r1 ⟨w', rfl, r2, r4⟩
end Go.Proofs.Ytlgbeekhaoiggaa
end

section
namespace Go.Proofs.Ytlgbeekhaoiggaa
open Go.AM
set_option maxHeartbeats 4000000
variable {f : Nat} {h : Heap}
def ubs (l : List UInt8) : List Value := l.map fun b => .int .u8 b.toNat
@[simp] theorem ubs_len (l : List UInt8) : (ubs l).length = l.length := by simp [ubs]
theorem ubs_app (a b : List UInt8) : ubs (a ++ b) = ubs a ++ ubs b := by simp [ubs]
theorem ubs_one (l : List UInt8) : (ubs l).all Go.AM.one = true := by simp [ubs, List.all_eq_true]
theorem ubs_bytes : ∀ l : List UInt8, bytesOf (ubs l) = some l
  | [] => rfl
  | b :: l => by
    have := ubs_bytes l
    simp only [ubs] at this
    have hb : Go.AM.byteOf (.int .u8 (b.toNat : Int)) = some b := by simp [Go.AM.byteOf]
    simp [ubs, bytesOf, hb, this]
def digR (n : Nat) : List UInt8 := if _h : n < 10 then [UInt8.ofNat (48 + n)] else UInt8.ofNat (48 + n % 10) :: digR (n / 10)
termination_by n
decreasing_by omega
def satT (v : Int) : List UInt8 := (if v < 0 then [45] else []) ++ (digR v.natAbs).reverse
structure TS (h0 h : Heap) (p q : Nat) (w : Value) (n : Nat) (ds : List UInt8) : Prop where
  c3 : ∃ t, h[p]? = some (.cells [w] t)
  c4 : ∃ t, h[q]? = some (.cells [.int .u64 n] t)
  gb : Buf h0.size h 5 1 w (ubs ds)
  kp : KeepB h0 h none
  l3 : h0.size ≤ p
  l4 : h0.size ≤ q
  ne : p ≠ q
  bw : blk w ≠ some p ∧ blk w ≠ some q
theorem text1_R {h0 : Heap} {p q : Nat} {w : Value} {n : Nat} {ds : List UInt8} (T : TS h0 h p q w n ds) (hl : ds.length ≤ 1000) (hn : n ≤ 18446744073709551615) :
    callR X ⟨h0.size, []⟩ 93 [ptr p, ptr q] h fun v h' => v = .bool (decide (0 < n / 10)) ∧ ∃ w', TS h0 h' p q w' (n / 10) (ds ++ [UInt8.ofNat (48 + n % 10)]) := by
  obtain ⟨⟨t3, c3⟩, ⟨t4, c4⟩, gb, kp, l3, l4, ne, bw⟩ := T
  refine callR_of rfl f93_is ?_
  simp only [f93r0, f93r1, f93r2, f93r3, f93b]
  have e3 := cellsAt_of c3
  have e4 := cellsAt_of c4
  have s3 := lt_of c3
  have s4 := lt_of c4
  have hsz := kp.1
  have hb : ((UInt8.ofNat (48 + n % 10)).toNat : Int) = 48 + ((n % 10 : Nat) : Int) := by simp; omega
  have htm : (n : Int).tmod 10 = ((n % 10 : Nat) : Int) := by rw [Int.tmod_eq_emod_of_nonneg (by omega)]; omega
  have htd : (n : Int).tdiv 10 = ((n / 10 : Nat) : Int) := by rw [Int.tdiv_eq_ediv_of_nonneg (by omega)]; omega
  obtain ⟨a, m, rfl⟩ := gb.form
  repeat' (first
 | refine za ?_ | refine zb ?_ | refine zc ?_ | refine zd ?_ | refine ze ?_ | refine zf ?_ | refine zg ?_ | refine zh ?_ | (refine zi ?_; try refine RgD_plain rfl ?_) | refine w_drawn rfl ?_ | refine zj ?_ | refine zl ?_
 | ((first | apply zs | (apply zt; (focus rfl)) | (apply zu; (focus rfl)) | (apply zv; (focus rfl)) | apply zx | apply zy | apply zB | apply zC | apply zD | apply zE | apply zF); (focus ((conv => lhs; simp (disch := omega) [-env0_get, bound, List.getElem?_cons_zero, List.getElem?_cons_succ, odt, odf, oip, oin, obt, obf, ont, onf, wrapI, owu, ow8, ow32, otd, oe0, oe1, oe2, oe3, oe4, oe5, oe6, otn, ot1, ot2, ot4, e3, e4, htm, htd]); first | done | rfl)); first | apply zk | (apply zn; (focus rfl); try (focus (first | rfl | (simp [e3, e4, htm, htd]; done)))) | (apply zo; (focus rfl)) | apply gv_u | apply gv_tt | apply gv_ff | apply gv_ft | apply gv_tf | (apply gv_split <;> intro hc <;> try simp only [decide_eq_true_eq, decide_eq_false_iff_not, beq_iff_eq, beq_eq_false_iff_ne, bne_iff_ne, bne_eq_false_iff_eq, Bool.not_true, Bool.not_false, ne_eq] at hc))
 | (simp (disch := omega) only [thenQ_normal, thenQ_exit, thenQ_ret, blockQ_normal, blockQ_ret, blockQ_exit_same, blockQ_exit_ne]))
  obtain ⟨w2, h2, q1, q2, q3, q4⟩ := append_buf (f := h0.size) (by_ := 1) (n := ds.length) (m := 1) (x := .slice (some ⟨h.size, 0, none⟩) 1 1) (l2 := [.int .u8 (48 + ((n % 10 : Nat) : Int))]) (by omega : 0 < 1) (by simp; omega) (gb.keepB ((KeepB.refl h none).push (.cells [.int .u8 (48 + ((n % 10 : Nat) : Int))] 5)) (.inl rfl)) (by simp [srcCells]) (by omega) (by simp) (ubs_one _) rfl (by omega) (by omega) rfl
  refine w_mem (v := w2) (h' := h2) rfl (by simpa using q1) ?_
  have k2 := q3.1
  simp only [Array.size_push] at k2
  have d3 : h2[p]? = some (.cells [.slice a m m] t3) := by rw [q3.2 p (by simp; omega) (fun q => bw.1 q), Array.getElem?_push, if_neg (by omega)]; exact c3
  have d4 : h2[q]? = some (.cells [.int .u64 n] t4) := by rw [q3.2 q (by simp; omega) (fun q => bw.2 q), Array.getElem?_push, if_neg (by omega)]; exact c4
  have g3 := cellsAt_of d3
  have g4 := cellsAt_of d4
  obtain ⟨a2, m2, rfl⟩ := q2.form
  have d4' : (h2.setIfInBounds p (.cells [.slice a2 m2 m2] t3))[q]? = some (.cells [.int .u64 n] t4) := by rw [Array.getElem?_setIfInBounds, if_neg ne]; exact d4
  have g4' := cellsAt_of d4'
  have s3' := lt_of d3
  have s4' := lt_of d4
  have g5 : ∀ x : Value, Heap.cellsAt ((h2.setIfInBounds p (.cells [.slice a2 m2 m2] t3)).setIfInBounds q (.cells [x] t4)) q = some [x] := fun x => cellsAt_of (e := t4) (by rw [Array.getElem?_setIfInBounds, if_pos rfl, if_pos (by simpa using s4')])
  repeat' (first
 | refine za ?_ | refine zb ?_ | refine zc ?_ | refine zd ?_ | refine ze ?_ | refine zf ?_ | refine zg ?_ | refine zh ?_ | (refine zi ?_; try refine RgD_plain rfl ?_) | refine w_drawn rfl ?_ | refine zj ?_ | refine zl ?_
 | ((first | apply zs | (apply zt; (focus rfl)) | (apply zu; (focus rfl)) | (apply zv; (focus rfl)) | apply zx | apply zy | apply zB | apply zC | apply zD | apply zE | apply zF); (focus ((conv => lhs; simp (disch := omega) [-env0_get, bound, List.getElem?_cons_zero, List.getElem?_cons_succ, odt, odf, oip, oin, obt, obf, ont, onf, wrapI, owu, ow8, ow32, otd, oe0, oe1, oe2, oe3, oe4, oe5, oe6, otn, ot1, ot2, ot4, g3, wr_def d3, g4', wr_def d4', g5, htm, htd]); first | done | rfl)); first | apply zk | (apply zn; (focus rfl); try (focus (first | rfl | (simp [g3, wr_def d3, g4', wr_def d4', g5, htm, htd]; done)))) | (apply zo; (focus rfl)) | apply gv_u | apply gv_tt | apply gv_ff | apply gv_ft | apply gv_tf | (apply gv_split <;> intro hc <;> try simp only [decide_eq_true_eq, decide_eq_false_iff_not, beq_iff_eq, beq_eq_false_iff_ne, bne_iff_ne, bne_eq_false_iff_eq, Bool.not_true, Bool.not_false, ne_eq] at hc))
 | (simp (disch := omega) only [thenQ_normal, thenQ_exit, thenQ_ret, blockQ_normal, blockQ_ret, blockQ_exit_same, blockQ_exit_ne]))
  have hbw : ∀ b, blk (.slice a m m) = some b → h0.size ≤ b ∧ b < h.size := by
    intro b hb
    rcases gb with ⟨e, _⟩ | ⟨b', n', e, _, hc, g⟩
    · cases e; simp [blk] at hb
    · cases e; simp [blk] at hb; subst hb; exact ⟨g, lt_of hc⟩
  have kp2 : KeepB h0 h2 none := (kp.push _).trans' q3 fun b hb => (hbw b hb).1
  have kp3 := kp2.trans' ((KeepB.refl h2 (some p)).set (.cells [.slice a2 m2 m2] t3) (.inr rfl)) (fun b hb => by cases hb; exact l3)
  have kp4 := kp3.trans' ((KeepB.refl _ (some q)).set (.cells [.int .u64 ((n : Int) / 10)] t4) (.inr rfl)) (fun b hb => by cases hb; exact l4)
  have hq4 : ∀ y, y < h.size → blk (.slice a2 m2 m2) ≠ some y := fun y hy e => by rw [q4] at e; simp at e; omega
  refine ⟨by rw [tup_one]; congr 1; simp only [decide_eq_decide]; omega, _, ⟨⟨t3, ?_⟩, ⟨t4, ?_⟩, ?_, kp4, l3, l4, ne, hq4 p s3, hq4 q s4⟩⟩
  · rw [Array.getElem?_setIfInBounds, if_neg (fun e => ne e.symm), Array.getElem?_setIfInBounds, if_pos rfl, if_pos s3']
  · rw [Array.getElem?_setIfInBounds, if_pos rfl, if_pos (by simpa using s4')]; simp
  · have := (q2.keepB ((KeepB.refl h2 (some p)).set (.cells [.slice a2 m2 m2] t3) (.inr rfl)) (.inr (hq4 p s3))).keepB ((KeepB.refl _ (some q)).set (.cells [.int .u64 ((n : Int) / 10)] t4) (.inr rfl)) (.inr (hq4 q s4))
    have hone : ubs [UInt8.ofNat (48 + n % 10)] = [.int .u8 (48 + ((n % 10 : Nat) : Int))] := by simp only [ubs, List.map_cons, List.map_nil, hb]
    rw [ubs_app, hone]
    simpa using this
theorem digR_len : ∀ (k n : Nat), 0 < k → n < 10 ^ k → (digR n).length ≤ k
  | 0, n, h0, _ => absurd h0 (by omega)
  | k + 1, n, _, hn => by
    rw [digR]; split
    · simp
    · rename_i h10
      have : 0 < k := by
        rcases k with _ | k
        · simp at hn; omega
        · omega
      have := digR_len k (n / 10) this (by rw [Nat.pow_succ] at hn; omega)
      simp; omega
theorem digR_small {n : Nat} (h : n < 10) : digR n = [UInt8.ofNat (48 + n)] := by rw [digR, dif_pos h]
theorem digR_big {n : Nat} (h : ¬ n < 10) : digR n = UInt8.ofNat (48 + n % 10) :: digR (n / 10) := by rw [digR, dif_neg h]
theorem put_rev {ds : List UInt8} {j : Nat} {b : UInt8} (hj : ds[j]? = some b) : putAt (ubs (List.replicate (ds.length - j) 0 ++ (ds.take j).reverse)) (ds.length - 1 - j) [.int .u8 b.toNat] = ubs (List.replicate (ds.length - (j + 1)) 0 ++ (ds.take (j + 1)).reverse) := by
  have hlt := (List.getElem?_eq_some_iff.1 hj).1
  have e1 : ds.length - j = (ds.length - (j + 1)) + 1 := by omega
  have e2 : ds.length - 1 - j = ds.length - (j + 1) := by omega
  rw [List.take_add_one, hj, e1, e2, List.replicate_succ']
  generalize ds.length - (j + 1) = m
  simp [putAt, ubs, List.take_append, List.drop_append]
theorem push_set {α : Type} (a : Array α) (x y : α) : (a.push x).setIfInBounds a.size y = a.push y := by
  apply Array.ext
  · simp
  · intro i h1 h2
    simp at h1 h2
    rw [Array.getElem_setIfInBounds (by simpa using h1), Array.getElem_push, Array.getElem_push]
    by_cases hi : i = a.size
    · rw [if_pos hi.symm, dif_neg (by omega)]
    · rw [if_neg (by omega), dif_pos (by omega), dif_pos (by omega)]
theorem satText_runs {v : Int} (hv : -9223372036854775808 ≤ v ∧ v ≤ 9223372036854775807) : Runs X ⟨f, []⟩ 55 [.int .i64 v] h (sv (satT v)) h := by
  refine Runs_of rfl f55_is ?_
  simp only [f55b, f55r0, f55r1, f55r2, f55r3]
  generalize hC : (ACode.seq (ACode.reg f55r8) _) = C
  -- the bytes, turned round
  have turn : ∀ (env : Env) (h' : Heap) (w : Value) (ds : List UInt8) (t : TypeId), h.size < h'.size → env 3 = ptr h.size → h'[h.size]? = some (.cells [w] t) → Buf h.size h' 5 1 w (ubs ds) → ds.length ≤ 1000 →
      Ok X ⟨h.size, []⟩ C env h' (EndsQ [.tmp 2] .pure h (sv ds.reverse) h) := by
    intro env h' w ds t hs e3 c3 gb hl
    rw [← hC]
    have g3 := cellsAt_of c3
    obtain ⟨a, m, rfl⟩ := gb.form
    simp only [f55r8, f55r9, f55r10, f55r11, f55r12, f55r13, f55l14, f55r15]
    have hm : m = ds.length := by have := (gb.row (n := ds.length) (by omega) (by simp)).form; obtain ⟨_, _, e⟩ := this; cases e; rfl
    subst hm
    have hz : List.replicate ds.length (Value.int .u8 0) = ubs (List.replicate (ds.length - 0) 0 ++ (ds.take 0).reverse) := by simp [ubs]
    repeat' (first
 | refine za ?_ | refine zb ?_ | refine zc ?_ | refine zd ?_ | refine ze ?_ | refine zf ?_ | refine zg ?_ | refine zh ?_ | (refine zi ?_; try refine RgD_plain rfl ?_) | refine w_drawn rfl ?_ | refine zj ?_ | refine zl ?_
 | ((first | apply zs | (apply zt; (focus rfl)) | (apply zu; (focus rfl)) | (apply zv; (focus rfl)) | apply zx | apply zy | apply zB | apply zC | apply zD | apply zE | apply zF); (focus ((conv => lhs; simp (disch := omega) [-env0_get, bound, List.getElem?_cons_zero, List.getElem?_cons_succ, odt, odf, oip, oin, obt, obf, ont, onf, wrapI, owu, ow8, ow32, otd, oe0, oe1, oe2, oe3, oe4, oe5, oe6, otn, ot1, ot2, ot4, e3, g3]); first | done | rfl)); first | apply zk | (apply zn; (focus rfl); try (focus (first | rfl | (simp [e3, g3]; done)))) | (apply zo; (focus rfl)) | apply gv_u | apply gv_tt | apply gv_ff | apply gv_ft | apply gv_tf | (apply gv_split <;> intro hc <;> try simp only [decide_eq_true_eq, decide_eq_false_iff_not, beq_iff_eq, beq_eq_false_iff_ne, bne_iff_ne, bne_eq_false_iff_eq, Bool.not_true, Bool.not_false, ne_eq] at hc))
 | (simp (disch := omega) only [thenQ_normal, thenQ_exit, thenQ_ret, blockQ_normal, blockQ_ret, blockQ_exit_same, blockQ_exit_ne]))
    refine w_loop (A := Nat) (fun j env h2 => env 3 = ptr h.size ∧ env 6 = .slice (some ⟨h'.size, 0, none⟩) ds.length ds.length ∧ env 22 = .int .i64 (ds.length : Nat) ∧ env 23 = .int .i64 (j : Nat) ∧ j ≤ ds.length ∧ h2 = h'.push (.cells (ubs (List.replicate (ds.length - j) 0 ++ (ds.take j).reverse)) 5)) (fun j => ds.length - j) (a0 := 0) ⟨by simp [e3], by simp, by simp, by simp, by omega, by rw [hz]⟩ ?_
    rintro j env2 h2 ⟨d3, d6, d22, d23, hj, hh⟩
    have c3' : (h'.push (.cells (ubs (List.replicate (ds.length - j) 0 ++ (ds.take j).reverse)) 5))[h.size]? = some (.cells [.slice a ds.length ds.length] t) := by rw [Array.getElem?_push, if_neg (by omega)]; exact c3
    have cn : (h'.push (.cells (ubs (List.replicate (ds.length - j) 0 ++ (ds.take j).reverse)) 5))[h'.size]? = some (.cells (ubs (List.replicate (ds.length - j) 0 ++ (ds.take j).reverse)) 5) := by simp
    have gb' := gb.keepB ((KeepB.refl h' none).push (.cells (ubs (List.replicate (ds.length - j) 0 ++ (ds.take j).reverse)) 5)) (.inl rfl)
    rw [← hh] at c3' cn gb'
    have g3' := cellsAt_of c3'
    have gn := cellsAt_of cn
    have hsz2 : h2.size = h'.size + 1 := by rw [hh]; simp
    by_cases hlt : j < ds.length
    · obtain ⟨b, hb⟩ : ∃ b, ds[j]? = some b := ⟨_, List.getElem?_eq_getElem hlt⟩
      rcases gb' with ⟨e, e2⟩ | ⟨y, n', e, h1, hc, h4⟩
      · injection e with _ e3; omega
      cases e
      have gy := cellsAt_of hc
      have hyl := lt_of hc
      have hjl : j < (ubs ds).length := by simpa using hlt
      have hby : (ubs ds)[j] = .int .u8 b.toNat := by
        have : (ubs ds)[j]? = some (.int .u8 b.toNat) := by simp [ubs, hb]
        rwa [List.getElem?_eq_getElem hjl, Option.some.injEq] at this
      have hi : ((ds.length : Int) - 1 - (j : Int)) = ((ds.length - 1 - j : Nat) : Int) := by omega
      have hpr := put_rev hb
      have hlen : (ubs (List.replicate (ds.length - j) 0 ++ (ds.take j).reverse)).length = ds.length := by simp; omega
      repeat' (first
 | refine za ?_ | refine zb ?_ | refine zc ?_ | refine zd ?_ | refine ze ?_ | refine zf ?_ | refine zg ?_ | refine zh ?_ | (refine zi ?_; try refine RgD_plain rfl ?_) | refine w_drawn rfl ?_ | refine zj ?_ | refine zl ?_
 | ((first | apply zs | (apply zt; (focus rfl)) | (apply zu; (focus rfl)) | (apply zv; (focus rfl)) | apply zx | apply zy | apply zB | apply zC | apply zD | apply zE | apply zF); (focus ((conv => lhs; simp (disch := omega) [-env0_get, bound, List.getElem?_cons_zero, List.getElem?_cons_succ, odt, odf, oip, oin, obt, obf, ont, onf, wrapI, owu, ow8, ow32, otd, oe0, oe1, oe2, oe3, oe4, oe5, oe6, otn, ot1, ot2, ot4, d3, d6, d22, d23, g3', gy, hby, hi, wr_def cn, hpr, hlen]); first | done | rfl)); first | apply zk | (apply zn; (focus rfl); try (focus (first | rfl | (simp [d3, d6, d22, d23, g3', gy, hby, hi, wr_def cn, hpr, hlen]; done)))) | (apply zo; (focus rfl)) | apply gv_u | apply gv_tt | apply gv_ff | apply gv_ft | apply gv_tf | (apply gv_split <;> intro hc <;> try simp only [decide_eq_true_eq, decide_eq_false_iff_not, beq_iff_eq, beq_eq_false_iff_ne, bne_iff_ne, bne_eq_false_iff_eq, Bool.not_true, Bool.not_false, ne_eq] at hc))
 | (simp (disch := omega) only [thenQ_normal, thenQ_exit, thenQ_ret, blockQ_normal, blockQ_ret, blockQ_exit_same, blockQ_exit_ne]))
      refine ⟨j + 1, ⟨by simp [d3], by simp [d6], by simp [d22], by simp, by omega, ?_⟩, by omega⟩
      rw [hh, push_set]
      refine congrArg (fun c => h'.push (.cells c 5)) ?_
      simpa [putAt] using hpr
    · have hjl : j = ds.length := by omega
      have hsrc : srcCells h2 1 (.slice (some ⟨h'.size, 0, none⟩) ds.length ds.length) = some (ds.length, ubs ds.reverse) := by
        have e : ubs (List.replicate (ds.length - j) 0 ++ (ds.take j).reverse) = ubs ds.reverse := by rw [hjl]; simp
        rw [e] at gn
        by_cases h0 : ds.length = 0
        · rw [List.length_eq_zero_iff.1 h0]; rfl
        · simp [srcCells, gn, grab, h0]; rw [List.take_of_length_le (by simp)]
      repeat' (first
 | refine za ?_ | refine zb ?_ | refine zc ?_ | refine zd ?_ | refine ze ?_ | refine zf ?_ | refine zg ?_ | refine zh ?_ | (refine zi ?_; try refine RgD_plain rfl ?_) | refine w_drawn rfl ?_ | refine zj ?_ | refine zl ?_
 | ((first | apply zs | (apply zt; (focus rfl)) | (apply zu; (focus rfl)) | (apply zv; (focus rfl)) | apply zx | apply zy | apply zB | apply zC | apply zD | apply zE | apply zF); (focus ((conv => lhs; simp (disch := omega) [-env0_get, bound, List.getElem?_cons_zero, List.getElem?_cons_succ, odt, odf, oip, oin, obt, obf, ont, onf, wrapI, owu, ow8, ow32, otd, oe0, oe1, oe2, oe3, oe4, oe5, oe6, otn, ot1, ot2, ot4, d3, d6, d22, d23, hsrc, ubs_bytes]); first | done | rfl)); first | apply zk | (apply zn; (focus rfl); try (focus (first | rfl | (simp [d3, d6, d22, d23, hsrc, ubs_bytes]; done)))) | (apply zo; (focus rfl)) | apply gv_u | apply gv_tt | apply gv_ff | apply gv_ft | apply gv_tf | (apply gv_split <;> intro hc <;> try simp only [decide_eq_true_eq, decide_eq_false_iff_not, beq_iff_eq, beq_eq_false_iff_ne, bne_iff_ne, bne_eq_false_iff_eq, Bool.not_true, Bool.not_false, ne_eq] at hc))
 | (simp (disch := omega) only [thenQ_normal, thenQ_exit, thenQ_ret, blockQ_normal, blockQ_ret, blockQ_exit_same, blockQ_exit_ne]))
  repeat' (first
 | refine za ?_ | refine zb ?_ | refine zc ?_ | refine zd ?_ | refine ze ?_ | refine zf ?_ | refine zg ?_ | refine zh ?_ | (refine zi ?_; try refine RgD_plain rfl ?_) | refine w_drawn rfl ?_ | refine zj ?_ | refine zl ?_
 | ((first | apply zs | (apply zt; (focus rfl)) | (apply zu; (focus rfl)) | (apply zv; (focus rfl)) | apply zw | apply zx | apply zy | apply zB | apply zC | apply zD | apply zE | apply zF); (focus ((conv => lhs; simp (disch := omega) [-env0_get, bound, List.getElem?_cons_zero, List.getElem?_cons_succ, odt, odf, oip, oin, obt, obf, ont, onf, wrapI, owu, ow8, ow32, otd, oe0, oe1, oe2, oe3, oe4, oe5, oe6, otn, ot1, ot2, ot4]); first | done | rfl)); first | apply zk | (apply zn; (focus rfl); try (focus (first | rfl | (simp; done)))) | (apply zo; (focus rfl)) | apply gv_u | apply gv_tt | apply gv_ff | apply gv_ft | apply gv_tf | (apply gv_split <;> intro hc <;> try simp only [decide_eq_true_eq, decide_eq_false_iff_not, beq_iff_eq, beq_eq_false_iff_ne, bne_iff_ne, bne_eq_false_iff_eq, Bool.not_true, Bool.not_false, ne_eq] at hc) | exact (size_runs hv))
 | (simp (disch := omega) only [thenQ_normal, thenQ_exit, thenQ_ret, blockQ_normal, blockQ_ret, blockQ_exit_same, blockQ_exit_ne]))
  have hdl := digR_len 20 v.natAbs (by omega) (by omega)
  refine w_loop (A := Nat × List UInt8 × Value) (fun a env h' => env 0 = .int .i64 v ∧ env 3 = ptr h.size ∧ env 5 = .func (.func 93) #[] #[ptr h.size, ptr (h.size + 1)] ∧ TS h h' h.size (h.size + 1) a.2.2 a.1 a.2.1 ∧ a.2.1 ++ digR a.1 = digR v.natAbs ∧ a.1 ≤ v.natAbs) (fun a => a.1) (a0 := (v.natAbs, [], .slice none 0 0))
    ⟨by simp, by simp, by simp, ⟨⟨_, by rw [Array.getElem?_push, if_neg (by simp), Array.getElem?_push, if_pos rfl]⟩, ⟨_, by rw [Array.getElem?_push, if_pos (by simp)]⟩, .inl ⟨rfl, rfl⟩, ((KeepB.refl h none).push _).push _, by omega, by omega, by omega, by simp [blk]⟩, rfl, by omega⟩ ?_
  rintro ⟨n, ds, w⟩ env h' ⟨e0, e3, e5, T, hd, hn⟩
  simp only at T hd hn
  have hdl2 : ds.length + (digR n).length ≤ 20 := by have := congrArg List.length hd; simp at this; omega
  simp only [f55l5, f55r4, f55r6, f55r7]
  repeat' (first
 | refine za ?_ | refine zb ?_ | refine zc ?_ | refine zd ?_ | refine ze ?_ | refine zf ?_ | refine zg ?_ | refine zh ?_ | (refine zi ?_; try refine RgD_plain rfl ?_) | refine w_drawn rfl ?_ | refine zj ?_ | refine zl ?_
 | ((first | apply zs | (apply zt; (focus rfl)) | (apply zu; (focus rfl)) | (apply zv; (focus rfl)) | apply zx | apply zy | apply zB | apply zC | apply zD | apply zE | apply zF); (focus ((conv => lhs; simp (disch := omega) [-env0_get, bound, List.getElem?_cons_zero, List.getElem?_cons_succ, odt, odf, oip, oin, obt, obf, ont, onf, wrapI, owu, ow8, ow32, otd, oe0, oe1, oe2, oe3, oe4, oe5, oe6, otn, ot1, ot2, ot4, e0, e3, e5]); first | done | rfl)); first | apply zk | (apply zn; (focus rfl); try (focus (first | rfl | (simp [e0, e3, e5]; done)))) | (apply zo; (focus rfl)) | apply gv_u | apply gv_tt | apply gv_ff | apply gv_ft | apply gv_tf | (apply gv_split <;> intro hc <;> try simp only [decide_eq_true_eq, decide_eq_false_iff_not, beq_iff_eq, beq_eq_false_iff_ne, bne_iff_ne, bne_eq_false_iff_eq, Bool.not_true, Bool.not_false, ne_eq] at hc))
 | (simp (disch := omega) only [thenQ_normal, thenQ_exit, thenQ_ret, blockQ_normal, blockQ_ret, blockQ_exit_same, blockQ_exit_ne]))
  (apply zW; (focus ((conv => lhs; simp (disch := omega) [-env0_get, bound, List.getElem?_cons_zero, List.getElem?_cons_succ, odt, odf, oip, oin, obt, obf, ont, onf, wrapI, owu, ow8, ow32, otd, oe0, oe1, oe2, oe3, oe4, oe5, oe6, otn, ot1, ot2, ot4, e0, e3, e5]); first | done | rfl)); (focus exact (text1_R T (by omega) (by omega)))); intro v1 h1 q1
  obtain ⟨rfl, w1, T1⟩ := q1
  by_cases h10 : n < 10
  · rw [digR_small h10] at hd
    have hmod : n % 10 = n := Nat.mod_eq_of_lt h10
    rw [hmod, hd] at T1
    have hz : ¬ 0 < n / 10 := by omega
    obtain ⟨⟨t3, c3⟩, _, gb, kp, _, _, _, bw⟩ := T1
    have g3 := cellsAt_of c3
    have s3 := lt_of c3
    have hsz := kp.1
    by_cases hv0 : v < 0
    · repeat' (first
 | refine za ?_ | refine zb ?_ | refine zc ?_ | refine zd ?_ | refine ze ?_ | refine zf ?_ | refine zg ?_ | refine zh ?_ | (refine zi ?_; try refine RgD_plain rfl ?_) | refine w_drawn rfl ?_ | refine zj ?_ | refine zl ?_
 | ((first | apply zs | (apply zt; (focus rfl)) | (apply zu; (focus rfl)) | (apply zv; (focus rfl)) | apply zx | apply zy | apply zB | apply zC | apply zD | apply zE | apply zF); (focus ((conv => lhs; simp (disch := omega) [-env0_get, bound, List.getElem?_cons_zero, List.getElem?_cons_succ, odt, odf, oip, oin, obt, obf, ont, onf, wrapI, owu, ow8, ow32, otd, oe0, oe1, oe2, oe3, oe4, oe5, oe6, otn, ot1, ot2, ot4, e0, e3, e5, hz, g3]); first | done | rfl)); first | apply zk | (apply zn; (focus rfl); try (focus (first | rfl | (simp [e0, e3, e5, hz, g3]; done)))) | (apply zo; (focus rfl)) | apply gv_u | apply gv_tt | apply gv_ff | apply gv_ft | apply gv_tf | (apply gv_split <;> intro hc <;> try simp only [decide_eq_true_eq, decide_eq_false_iff_not, beq_iff_eq, beq_eq_false_iff_ne, bne_iff_ne, bne_eq_false_iff_eq, Bool.not_true, Bool.not_false, ne_eq] at hc))
 | (simp (disch := omega) only [thenQ_normal, thenQ_exit, thenQ_ret, blockQ_normal, blockQ_ret, blockQ_exit_same, blockQ_exit_ne]))
      obtain ⟨w2, h2, q1, q2, q3, q4⟩ := append_buf (f := h.size) (by_ := 1) (n := (digR v.natAbs).length) (m := 1) (x := .slice (some ⟨h1.size, 0, none⟩) 1 1) (l2 := [.int .u8 45]) (by omega : 0 < 1) (by simp; omega) (gb.keepB ((KeepB.refl h1 none).push (.cells [.int .u8 45] 5)) (.inl rfl)) (by simp [srcCells]) (by omega) (by simp) (ubs_one _) rfl (by omega) (by omega) rfl
      refine w_mem (v := w2) (h' := h2) rfl (by simpa using q1) ?_
      have k2 := q3.1
      simp only [Array.size_push] at k2
      have d3 : h2[h.size]? = some (.cells [w1] t3) := by rw [q3.2 h.size (by simp; omega) (fun q => bw.1 q), Array.getElem?_push, if_neg (by omega)]; exact c3
      obtain ⟨a2, m2, rfl⟩ := q2.form
      repeat' (first
 | refine za ?_ | refine zb ?_ | refine zc ?_ | refine zd ?_ | refine ze ?_ | refine zf ?_ | refine zg ?_ | refine zh ?_ | (refine zi ?_; try refine RgD_plain rfl ?_) | refine w_drawn rfl ?_ | refine zj ?_ | refine zl ?_
 | ((first | apply zs | (apply zt; (focus rfl)) | (apply zu; (focus rfl)) | (apply zv; (focus rfl)) | apply zx | apply zy | apply zB | apply zC | apply zD | apply zE | apply zF); (focus ((conv => lhs; simp (disch := omega) [-env0_get, bound, List.getElem?_cons_zero, List.getElem?_cons_succ, odt, odf, oip, oin, obt, obf, ont, onf, wrapI, owu, ow8, ow32, otd, oe0, oe1, oe2, oe3, oe4, oe5, oe6, otn, ot1, ot2, ot4, e0, e3, e5, wr_def d3]); first | done | rfl)); first | apply zk | (apply zn; (focus rfl); try (focus (first | rfl | (simp [e0, e3, e5, wr_def d3]; done)))) | (apply zo; (focus rfl)) | apply gv_u | apply gv_tt | apply gv_ff | apply gv_ft | apply gv_tf | (apply gv_split <;> intro hc <;> try simp only [decide_eq_true_eq, decide_eq_false_iff_not, beq_iff_eq, beq_eq_false_iff_ne, bne_iff_ne, bne_eq_false_iff_eq, Bool.not_true, Bool.not_false, ne_eq] at hc))
 | (simp (disch := omega) only [thenQ_normal, thenQ_exit, thenQ_ret, blockQ_normal, blockQ_ret, blockQ_exit_same, blockQ_exit_ne]))
      have e : satT v = (digR v.natAbs ++ [45]).reverse := by unfold satT; rw [if_pos hv0]; simp
      rw [e]
      refine turn _ _ (.slice a2 m2 m2) (digR v.natAbs ++ [45]) t3 ?_ ?_ ?_ ?_ (by simp; omega)
      · simp; omega
      · simp [e3]
      · rw [Array.getElem?_setIfInBounds, if_pos rfl, if_pos (by omega)]
      · rw [ubs_app]
        exact (q2.keepB ((KeepB.refl h2 (some h.size)).set _ (.inr rfl)) (.inr (fun e => by rw [q4] at e; simp at e; omega)))
    · repeat' (first
 | refine za ?_ | refine zb ?_ | refine zc ?_ | refine zd ?_ | refine ze ?_ | refine zf ?_ | refine zg ?_ | refine zh ?_ | (refine zi ?_; try refine RgD_plain rfl ?_) | refine w_drawn rfl ?_ | refine zj ?_ | refine zl ?_
 | ((first | apply zs | (apply zt; (focus rfl)) | (apply zu; (focus rfl)) | (apply zv; (focus rfl)) | apply zx | apply zy | apply zB | apply zC | apply zD | apply zE | apply zF); (focus ((conv => lhs; simp (disch := omega) [-env0_get, bound, List.getElem?_cons_zero, List.getElem?_cons_succ, odt, odf, oip, oin, obt, obf, ont, onf, wrapI, owu, ow8, ow32, otd, oe0, oe1, oe2, oe3, oe4, oe5, oe6, otn, ot1, ot2, ot4, e0, e3, e5, hz, g3]); first | done | rfl)); first | apply zk | (apply zn; (focus rfl); try (focus (first | rfl | (simp [e0, e3, e5, hz, g3]; done)))) | (apply zo; (focus rfl)) | apply gv_u | apply gv_tt | apply gv_ff | apply gv_ft | apply gv_tf | (apply gv_split <;> intro hc <;> try simp only [decide_eq_true_eq, decide_eq_false_iff_not, beq_iff_eq, beq_eq_false_iff_ne, bne_iff_ne, bne_eq_false_iff_eq, Bool.not_true, Bool.not_false, ne_eq] at hc))
 | (simp (disch := omega) only [thenQ_normal, thenQ_exit, thenQ_ret, blockQ_normal, blockQ_ret, blockQ_exit_same, blockQ_exit_ne]))
      have e : satT v = (digR v.natAbs).reverse := by unfold satT; rw [if_neg hv0]; rfl
      rw [e]
      exact turn _ h1 w1 (digR v.natAbs) t3 (by omega) (by simp [e3]) c3 gb (by omega)
  · rw [digR_big h10] at hd
    have hz : 0 < n / 10 := by omega
    repeat' (first
 | refine za ?_ | refine zb ?_ | refine zc ?_ | refine zd ?_ | refine ze ?_ | refine zf ?_ | refine zg ?_ | refine zh ?_ | (refine zi ?_; try refine RgD_plain rfl ?_) | refine w_drawn rfl ?_ | refine zj ?_ | refine zl ?_
 | ((first | apply zs | (apply zt; (focus rfl)) | (apply zu; (focus rfl)) | (apply zv; (focus rfl)) | apply zx | apply zy | apply zB | apply zC | apply zD | apply zE | apply zF); (focus ((conv => lhs; simp (disch := omega) [-env0_get, bound, List.getElem?_cons_zero, List.getElem?_cons_succ, odt, odf, oip, oin, obt, obf, ont, onf, wrapI, owu, ow8, ow32, otd, oe0, oe1, oe2, oe3, oe4, oe5, oe6, otn, ot1, ot2, ot4, e0, e3, e5, hz]); first | done | rfl)); first | apply zk | (apply zn; (focus rfl); try (focus (first | rfl | (simp [e0, e3, e5, hz]; done)))) | (apply zo; (focus rfl)) | apply gv_u | apply gv_tt | apply gv_ff | apply gv_ft | apply gv_tf | (apply gv_split <;> intro hc <;> try simp only [decide_eq_true_eq, decide_eq_false_iff_not, beq_iff_eq, beq_eq_false_iff_ne, bne_iff_ne, bne_eq_false_iff_eq, Bool.not_true, Bool.not_false, ne_eq] at hc))
 | (simp (disch := omega) only [thenQ_normal, thenQ_exit, thenQ_ret, blockQ_normal, blockQ_ret, blockQ_exit_same, blockQ_exit_ne]))
    exact ⟨(n / 10, ds ++ [UInt8.ofNat (48 + n % 10)], w1), ⟨by simp [e0], by simp [e3], by simp [e5], T1, by simp only [List.append_assoc, List.singleton_append]; exact hd, by simp only; omega⟩, by simp only; omega⟩
end Go.Proofs.Ytlgbeekhaoiggaa
end

section
namespace Go.Proofs.Ytlgbeekhaoiggaa
open Go.AM
set_option maxHeartbeats 4000000
variable {f : Nat} {h : Heap}
def okI (n : Int) : Prop := -9223372036854775808 ≤ n ∧ n ≤ 9223372036854775807
def cutT (c : Int × Int) : List UInt8 := if (canon c).1 = -1 ∧ (canon c).2 = 0 then [45, 105, 110, 102] else if (canon c).1 = 1 ∧ (canon c).2 = 0 then [43, 105, 110, 102] else satT (canon c).2
theorem satT_len {v : Int} (hv : okI v) : (satT v).length ≤ 21 := by
  unfold okI at hv
  have := digR_len 20 v.natAbs (by omega) (by omega)
  unfold satT; split <;> simp <;> omega
def negC (a b : Int) : Prop := a < 0 ∨ a = 0 ∧ b = -9223372036854775808
instance (a b : Int) : Decidable (negC a b) := by unfold negC; infer_instance
theorem canon_neg {a b : Int} (h : negC a b) : canon (a, b) = (-1, 0) := if_pos h
theorem canon_pos {a b : Int} (h : 0 < a) : canon (a, b) = (1, 0) := by unfold canon; rw [if_neg (by simp only; omega), if_pos h]
theorem canon_mid {a b : Int} (h : ¬ negC a b) (h2 : ¬ 0 < a) : canon (a, b) = (0, b) ∧ a = 0 := by
  unfold negC at h
  unfold canon; rw [if_neg h, if_neg (by simp only; omega)]
  have : a = 0 := by omega
  subst this; exact ⟨rfl, rfl⟩
theorem cutText_runs {a b : Int} (hb : okI b) : Runs X ⟨f, []⟩ 91 [.agg #[.int .i64 a, .int .i64 b]] h (sv (cutT (a, b))) h := by
  refine Runs_of rfl f91_is ?_
  simp only [f91r0, f91r1, f91r2, f91r3, f91r4, f91r5, f91r6, f91r7, f91b]
  by_cases h1 : negC a b
  · have hc := canon_neg (b := b) h1
    have e : cutT (a, b) = [45, 105, 110, 102] := by unfold cutT; rw [hc]; rfl
    rw [e]
    repeat' (first
 | refine za ?_ | refine zb ?_ | refine zc ?_ | refine zd ?_ | refine ze ?_ | refine zf ?_ | refine zg ?_ | refine zh ?_ | (refine zi ?_; try refine RgD_plain rfl ?_) | refine w_drawn rfl ?_ | refine zj ?_ | refine zl ?_
 | ((first | apply zs | (apply zt; (focus rfl)) | (apply zu; (focus rfl)) | (apply zv; (focus rfl)) | apply zw | apply zx | apply zy | apply zB | apply zC | apply zD | apply zE | apply zF); (focus ((conv => lhs; simp (disch := omega) [-env0_get, bound, List.getElem?_cons_zero, List.getElem?_cons_succ, odt, odf, oip, oin, obt, obf, ont, onf, wrapI, owu, ow8, ow32, otd, oe0, oe1, oe2, oe3, oe4, oe5, oe6, otn, ot1, ot2, ot4, hc, eqs, eqV, eqK]); first | done | rfl)); first | apply zk | (apply zn; (focus rfl); try (focus (first | rfl | (simp [hc, eqs, eqV, eqK]; done)))) | (apply zo; (focus rfl)) | apply gv_u | apply gv_tt | apply gv_ff | apply gv_ft | apply gv_tf | (apply gv_split <;> intro hc <;> try simp only [decide_eq_true_eq, decide_eq_false_iff_not, beq_iff_eq, beq_eq_false_iff_ne, bne_iff_ne, bne_eq_false_iff_eq, Bool.not_true, Bool.not_false, ne_eq] at hc) | exact canon_runs | exact first_runs | exact last_runs)
 | (simp (disch := omega) only [thenQ_normal, thenQ_exit, thenQ_ret, blockQ_normal, blockQ_ret, blockQ_exit_same, blockQ_exit_ne]))
  · by_cases h2 : 0 < a
    · have hc := canon_pos (b := b) h2
      have e : cutT (a, b) = [43, 105, 110, 102] := by unfold cutT; rw [hc]; rfl
      rw [e]
      repeat' (first
 | refine za ?_ | refine zb ?_ | refine zc ?_ | refine zd ?_ | refine ze ?_ | refine zf ?_ | refine zg ?_ | refine zh ?_ | (refine zi ?_; try refine RgD_plain rfl ?_) | refine w_drawn rfl ?_ | refine zj ?_ | refine zl ?_
 | ((first | apply zs | (apply zt; (focus rfl)) | (apply zu; (focus rfl)) | (apply zv; (focus rfl)) | apply zw | apply zx | apply zy | apply zB | apply zC | apply zD | apply zE | apply zF); (focus ((conv => lhs; simp (disch := omega) [-env0_get, bound, List.getElem?_cons_zero, List.getElem?_cons_succ, odt, odf, oip, oin, obt, obf, ont, onf, wrapI, owu, ow8, ow32, otd, oe0, oe1, oe2, oe3, oe4, oe5, oe6, otn, ot1, ot2, ot4, hc, eqs, eqV, eqK]); first | done | rfl)); first | apply zk | (apply zn; (focus rfl); try (focus (first | rfl | (simp [hc, eqs, eqV, eqK]; done)))) | (apply zo; (focus rfl)) | apply gv_u | apply gv_tt | apply gv_ff | apply gv_ft | apply gv_tf | (apply gv_split <;> intro hc <;> try simp only [decide_eq_true_eq, decide_eq_false_iff_not, beq_iff_eq, beq_eq_false_iff_ne, bne_iff_ne, bne_eq_false_iff_eq, Bool.not_true, Bool.not_false, ne_eq] at hc) | exact canon_runs | exact first_runs | exact last_runs)
 | (simp (disch := omega) only [thenQ_normal, thenQ_exit, thenQ_ret, blockQ_normal, blockQ_ret, blockQ_exit_same, blockQ_exit_ne]))
    · have hc := (canon_mid h1 h2).1
      have e : cutT (a, b) = satT b := by unfold cutT; rw [hc]; simp
      rw [e]
      repeat' (first
 | refine za ?_ | refine zb ?_ | refine zc ?_ | refine zd ?_ | refine ze ?_ | refine zf ?_ | refine zg ?_ | refine zh ?_ | (refine zi ?_; try refine RgD_plain rfl ?_) | refine w_drawn rfl ?_ | refine zj ?_ | refine zl ?_
 | ((first | apply zs | (apply zt; (focus rfl)) | (apply zu; (focus rfl)) | (apply zv; (focus rfl)) | apply zw | apply zx | apply zy | apply zB | apply zC | apply zD | apply zE | apply zF); (focus ((conv => lhs; simp (disch := omega) [-env0_get, bound, List.getElem?_cons_zero, List.getElem?_cons_succ, odt, odf, oip, oin, obt, obf, ont, onf, wrapI, owu, ow8, ow32, otd, oe0, oe1, oe2, oe3, oe4, oe5, oe6, otn, ot1, ot2, ot4, hc, eqs, eqV, eqK]); first | done | rfl)); first | apply zk | (apply zn; (focus rfl); try (focus (first | rfl | (simp [hc, eqs, eqV, eqK]; done)))) | (apply zo; (focus rfl)) | apply gv_u | apply gv_tt | apply gv_ff | apply gv_ft | apply gv_tf | (apply gv_split <;> intro hc <;> try simp only [decide_eq_true_eq, decide_eq_false_iff_not, beq_iff_eq, beq_eq_false_iff_ne, bne_iff_ne, bne_eq_false_iff_eq, Bool.not_true, Bool.not_false, ne_eq] at hc) | exact canon_runs | exact first_runs | exact last_runs | exact (satText_runs hb))
 | (simp (disch := omega) only [thenQ_normal, thenQ_exit, thenQ_ret, blockQ_normal, blockQ_ret, blockQ_exit_same, blockQ_exit_ne]))
theorem cutT_len {c : Int × Int} (hb : okI c.2) : (cutT c).length ≤ 21 := by
  rcases c with ⟨a, b⟩
  unfold cutT
  by_cases h1 : negC a b
  · rw [canon_neg h1]; simp
  · by_cases h2 : 0 < a
    · rw [canon_pos h2]; simp
    · rw [(canon_mid h1 h2).1]; simp; exact satT_len hb
def boundT (s : Sp) : List UInt8 := if rightS s.a s.b s.c s.d = true then (if s.a = -1 ∧ s.b = 0 then [40] else [91]) ++ cutT (s.a, s.b) ++ [44] ++ cutT (s.c, s.d) ++ [41] else []
def okS (s : Sp) : Prop := okI s.a ∧ okI s.b ∧ okI s.c ∧ okI s.d
theorem boundT_len {s : Sp} (hs : okS s) : (boundT s).length ≤ 45 := by
  obtain ⟨_, h2, _, h4⟩ := hs
  have := cutT_len (c := (s.a, s.b)) h2
  have := cutT_len (c := (s.c, s.d)) h4
  unfold boundT
  split
  · split <;> simp <;> omega
  · simp
theorem boundText_runs {s : Sp} (hs : okS s) : Runs X ⟨f, []⟩ 54 [spV s] h (sv (boundT s)) h := by
  obtain ⟨_, h2, _, h4⟩ := id hs
  rcases s with ⟨a, b, c, d⟩
  simp only at h2 h4
  have l1 := cutT_len (c := (a, b)) h2
  have l2 := cutT_len (c := (c, d)) h4
  refine Runs_of rfl f54_is ?_
  simp only [f54r0, f54r1, f54r2, f54r3, f54r4, f54r5, f54r6, f54b]
  cases hr : rightS a b c d with
  | false =>
    have e : boundT ⟨a, b, c, d⟩ = [] := by unfold boundT; simp only [hr]; rfl
    rw [e]
    repeat' (first
 | refine za ?_ | refine zb ?_ | refine zc ?_ | refine zd ?_ | refine ze ?_ | refine zf ?_ | refine zg ?_ | refine zh ?_ | (refine zi ?_; try refine RgD_plain rfl ?_) | refine w_drawn rfl ?_ | refine zj ?_ | refine zl ?_
 | ((first | apply zs | (apply zt; (focus rfl)) | (apply zu; (focus rfl)) | (apply zv; (focus rfl)) | apply zw | apply zx | apply zy | apply zB | apply zC | apply zD | apply zE | apply zF); (focus ((conv => lhs; simp (disch := omega) [-env0_get, bound, List.getElem?_cons_zero, List.getElem?_cons_succ, odt, odf, oip, oin, obt, obf, ont, onf, wrapI, owu, ow8, ow32, otd, oe0, oe1, oe2, oe3, oe4, oe5, oe6, otn, ot1, ot2, ot4, hr, spV]); first | done | rfl)); first | apply zk | (apply zn; (focus rfl); try (focus (first | rfl | (simp [hr, spV]; done)))) | (apply zo; (focus rfl)) | apply gv_u | apply gv_tt | apply gv_ff | apply gv_ft | apply gv_tf | (apply gv_split <;> intro hc <;> try simp only [decide_eq_true_eq, decide_eq_false_iff_not, beq_iff_eq, beq_eq_false_iff_ne, bne_iff_ne, bne_eq_false_iff_eq, Bool.not_true, Bool.not_false, ne_eq] at hc) | exact rightS_runs)
 | (simp (disch := omega) only [thenQ_normal, thenQ_exit, thenQ_ret, blockQ_normal, blockQ_ret, blockQ_exit_same, blockQ_exit_ne]))
  | true =>
    by_cases h1 : a = -1 ∧ b = 0
    · have e : boundT ⟨a, b, c, d⟩ = [40] ++ cutT (a, b) ++ [44] ++ cutT (c, d) ++ [41] := by unfold boundT; simp only [hr]; rw [if_pos trivial, if_pos h1]
      rw [e]
      obtain ⟨rfl, rfl⟩ := h1
      repeat' (first
 | refine za ?_ | refine zb ?_ | refine zc ?_ | refine zd ?_ | refine ze ?_ | refine zf ?_ | refine zg ?_ | refine zh ?_ | (refine zi ?_; try refine RgD_plain rfl ?_) | refine w_drawn rfl ?_ | refine zj ?_ | refine zl ?_
 | ((first | apply zs | (apply zt; (focus rfl)) | (apply zu; (focus rfl)) | (apply zv; (focus rfl)) | apply zw | apply zx | apply zy | apply zB | apply zC | apply zD | apply zE | apply zF); (focus ((conv => lhs; simp (disch := omega) [-env0_get, bound, List.getElem?_cons_zero, List.getElem?_cons_succ, odt, odf, oip, oin, obt, obf, ont, onf, wrapI, owu, ow8, ow32, otd, oe0, oe1, oe2, oe3, oe4, oe5, oe6, otn, ot1, ot2, ot4, hr, eqs, eqV, eqK, spV, binS]); first | done | rfl)); first | apply zk | (apply zn; (focus rfl); try (focus (first | rfl | (simp [hr, eqs, eqV, eqK, spV, binS]; done)))) | (apply zo; (focus rfl)) | apply gv_u | apply gv_tt | apply gv_ff | apply gv_ft | apply gv_tf | (apply gv_split <;> intro hc <;> try simp only [decide_eq_true_eq, decide_eq_false_iff_not, beq_iff_eq, beq_eq_false_iff_ne, bne_iff_ne, bne_eq_false_iff_eq, Bool.not_true, Bool.not_false, ne_eq] at hc) | exact rightS_runs | exact first_runs | exact (cutText_runs h2) | exact (cutText_runs h4))
 | (simp (disch := omega) only [thenQ_normal, thenQ_exit, thenQ_ret, blockQ_normal, blockQ_ret, blockQ_exit_same, blockQ_exit_ne]))
    · have e : boundT ⟨a, b, c, d⟩ = [91] ++ cutT (a, b) ++ [44] ++ cutT (c, d) ++ [41] := by unfold boundT; simp only [hr]; rw [if_pos trivial, if_neg h1]
      rw [e]
      by_cases ha : a = -1
      · subst ha
        have hne : (b == 0) = false := by simpa using h1
        repeat' (first
 | refine za ?_ | refine zb ?_ | refine zc ?_ | refine zd ?_ | refine ze ?_ | refine zf ?_ | refine zg ?_ | refine zh ?_ | (refine zi ?_; try refine RgD_plain rfl ?_) | refine w_drawn rfl ?_ | refine zj ?_ | refine zl ?_
 | ((first | apply zs | (apply zt; (focus rfl)) | (apply zu; (focus rfl)) | (apply zv; (focus rfl)) | apply zw | apply zx | apply zy | apply zB | apply zC | apply zD | apply zE | apply zF); (focus ((conv => lhs; simp (disch := omega) [-env0_get, bound, List.getElem?_cons_zero, List.getElem?_cons_succ, odt, odf, oip, oin, obt, obf, ont, onf, wrapI, owu, ow8, ow32, otd, oe0, oe1, oe2, oe3, oe4, oe5, oe6, otn, ot1, ot2, ot4, hr, eqs, eqV, eqK, spV, hne, binS]); first | done | rfl)); first | apply zk | (apply zn; (focus rfl); try (focus (first | rfl | (simp [hr, eqs, eqV, eqK, spV, hne, binS]; done)))) | (apply zo; (focus rfl)) | apply gv_u | apply gv_tt | apply gv_ff | apply gv_ft | apply gv_tf | (apply gv_split <;> intro hc <;> try simp only [decide_eq_true_eq, decide_eq_false_iff_not, beq_iff_eq, beq_eq_false_iff_ne, bne_iff_ne, bne_eq_false_iff_eq, Bool.not_true, Bool.not_false, ne_eq] at hc) | exact rightS_runs | exact first_runs | exact (cutText_runs h2) | exact (cutText_runs h4))
 | (simp (disch := omega) only [thenQ_normal, thenQ_exit, thenQ_ret, blockQ_normal, blockQ_ret, blockQ_exit_same, blockQ_exit_ne]))
      · have hne : (a == -1) = false := by simpa using ha
        repeat' (first
 | refine za ?_ | refine zb ?_ | refine zc ?_ | refine zd ?_ | refine ze ?_ | refine zf ?_ | refine zg ?_ | refine zh ?_ | (refine zi ?_; try refine RgD_plain rfl ?_) | refine w_drawn rfl ?_ | refine zj ?_ | refine zl ?_
 | ((first | apply zs | (apply zt; (focus rfl)) | (apply zu; (focus rfl)) | (apply zv; (focus rfl)) | apply zw | apply zx | apply zy | apply zB | apply zC | apply zD | apply zE | apply zF); (focus ((conv => lhs; simp (disch := omega) [-env0_get, bound, List.getElem?_cons_zero, List.getElem?_cons_succ, odt, odf, oip, oin, obt, obf, ont, onf, wrapI, owu, ow8, ow32, otd, oe0, oe1, oe2, oe3, oe4, oe5, oe6, otn, ot1, ot2, ot4, hr, eqs, eqV, eqK, spV, hne, binS]); first | done | rfl)); first | apply zk | (apply zn; (focus rfl); try (focus (first | rfl | (simp [hr, eqs, eqV, eqK, spV, hne, binS]; done)))) | (apply zo; (focus rfl)) | apply gv_u | apply gv_tt | apply gv_ff | apply gv_ft | apply gv_tf | (apply gv_split <;> intro hc <;> try simp only [decide_eq_true_eq, decide_eq_false_iff_not, beq_iff_eq, beq_eq_false_iff_ne, bne_iff_ne, bne_eq_false_iff_eq, Bool.not_true, Bool.not_false, ne_eq] at hc) | exact rightS_runs | exact first_runs | exact (cutText_runs h2) | exact (cutText_runs h4))
 | (simp (disch := omega) only [thenQ_normal, thenQ_exit, thenQ_ret, blockQ_normal, blockQ_ret, blockQ_exit_same, blockQ_exit_ne]))
def segT (x : Sg) : List UInt8 := if boundT x.s = [] then [] else boundT x.s ++ [61, 62] ++ satT x.v
def okG (x : Sg) : Prop := okS x.s ∧ okI x.v
theorem segT_len {x : Sg} (hx : okG x) : (segT x).length ≤ 70 := by
  have := boundT_len hx.1
  have := satT_len hx.2
  unfold segT; split <;> simp; omega
theorem seg1_runs {x : Sg} (hx : okG x) : Runs X ⟨f, []⟩ 53 [sgV x] h (sv (segT x)) h := by
  have l1 := boundT_len hx.1
  have l2 := satT_len hx.2
  have c1 := fun h' => boundText_runs (f := f) (h := h') hx.1
  have c2 := fun h' => satText_runs (f := f) (h := h') hx.2
  refine Runs_of rfl f53_is ?_
  simp only [f53r0, f53r1, f53r2, f53r3, f53r4, f53b]
  cases hb : boundT x.s with
  | nil =>
    have e : segT x = [] := by unfold segT; rw [if_pos hb]
    rw [e]
    repeat' (first
 | refine za ?_ | refine zb ?_ | refine zc ?_ | refine zd ?_ | refine ze ?_ | refine zf ?_ | refine zg ?_ | refine zh ?_ | (refine zi ?_; try refine RgD_plain rfl ?_) | refine w_drawn rfl ?_ | refine zj ?_ | refine zl ?_
 | ((first | apply zs | (apply zt; (focus rfl)) | (apply zu; (focus rfl)) | (apply zv; (focus rfl)) | apply zw | apply zx | apply zy | apply zB | apply zC | apply zD | apply zE | apply zF); (focus ((conv => lhs; simp (disch := omega) [-env0_get, bound, List.getElem?_cons_zero, List.getElem?_cons_succ, odt, odf, oip, oin, obt, obf, ont, onf, wrapI, owu, ow8, ow32, otd, oe0, oe1, oe2, oe3, oe4, oe5, oe6, otn, ot1, ot2, ot4, hb, sgV, spV, binS]); first | done | rfl)); first | apply zk | (apply zn; (focus rfl); try (focus (first | rfl | (simp [hb, sgV, spV, binS]; done)))) | (apply zo; (focus rfl)) | apply gv_u | apply gv_tt | apply gv_ff | apply gv_ft | apply gv_tf | (apply gv_split <;> intro hc <;> try simp only [decide_eq_true_eq, decide_eq_false_iff_not, beq_iff_eq, beq_eq_false_iff_ne, bne_iff_ne, bne_eq_false_iff_eq, Bool.not_true, Bool.not_false, ne_eq] at hc) | exact (boundText_runs hx.1))
 | (simp (disch := omega) only [thenQ_normal, thenQ_exit, thenQ_ret, blockQ_normal, blockQ_ret, blockQ_exit_same, blockQ_exit_ne]))
  | cons b r =>
    have e : segT x = b :: r ++ [61, 62] ++ satT x.v := by unfold segT; rw [hb]; simp
    rw [e]
    rw [hb, List.length_cons] at l1
    repeat' (first
 | refine za ?_ | refine zb ?_ | refine zc ?_ | refine zd ?_ | refine ze ?_ | refine zf ?_ | refine zg ?_ | refine zh ?_ | (refine zi ?_; try refine RgD_plain rfl ?_) | refine w_drawn rfl ?_ | refine zj ?_ | refine zl ?_
 | ((first | apply zs | (apply zt; (focus rfl)) | (apply zu; (focus rfl)) | (apply zv; (focus rfl)) | apply zw | apply zx | apply zy | apply zB | apply zC | apply zD | apply zE | apply zF); (focus ((conv => lhs; simp (disch := omega) [-env0_get, bound, List.getElem?_cons_zero, List.getElem?_cons_succ, odt, odf, oip, oin, obt, obf, ont, onf, wrapI, owu, ow8, ow32, otd, oe0, oe1, oe2, oe3, oe4, oe5, oe6, otn, ot1, ot2, ot4, hb, sgV, spV, binS]); first | done | rfl)); first | apply zk | (apply zn; (focus rfl); try (focus (first | rfl | (simp [hb, sgV, spV, binS]; done)))) | (apply zo; (focus rfl)) | apply gv_u | apply gv_tt | apply gv_ff | apply gv_ft | apply gv_tf | (apply gv_split <;> intro hc <;> try simp only [decide_eq_true_eq, decide_eq_false_iff_not, beq_iff_eq, beq_eq_false_iff_ne, bne_iff_ne, bne_eq_false_iff_eq, Bool.not_true, Bool.not_false, ne_eq] at hc) | exact (boundText_runs hx.1) | exact (satText_runs hx.2))
 | (simp (disch := omega) only [thenQ_normal, thenQ_exit, thenQ_ret, blockQ_normal, blockQ_ret, blockQ_exit_same, blockQ_exit_ne]))
end Go.Proofs.Ytlgbeekhaoiggaa
end
