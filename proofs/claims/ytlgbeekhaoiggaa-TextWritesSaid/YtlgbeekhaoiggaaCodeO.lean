import Derived.Test.YtlgbeekhaoiggaaCodeN
set_option linter.all false
section
namespace Go.Proofs.Ytlgbeekhaoiggaa
open Go.AM
set_option maxHeartbeats 4000000
variable {f : Nat} {h : Heap}
def elT (nums : Bool) (x : Sg) : List UInt8 := if nums then segT x else boundT x.s
theorem elT_len {nums : Bool} {x : Sg} (hx : okG x) : (elT nums x).length ≤ 70 := by
  unfold elT; split
  · exact segT_len hx
  · have := boundT_len hx.1; omega
theorem elT_nil {nums : Bool} {x : Sg} : elT nums x = [] ↔ boundT x.s = [] := by
  unfold elT segT
  cases nums <;> simp
theorem text18_R {v : Value} {xs : List Sg} {nums : Bool} (hr : GRow h v xs) (hl : xs.length ≤ 10000) (hok : ∀ x ∈ xs, okG x) : Runs X ⟨f, []⟩ 22 [v, .bool nums] h (sv (rowT (xs.map (elT nums)))) h := by
  refine Runs_of rfl f22_is ?_
  obtain ⟨aw, cw, rfl⟩ := hr.form
  simp only [f22r0, f22r1, f22r2, f22r3, f22r4, f22r5, f22r6, f22r7, f22r8, f22r9, f22r10, f22r11, f22r12, f22l13, f22r14, f22b]
  repeat' (first
 | refine za ?_ | refine zb ?_ | refine zc ?_ | refine zd ?_ | refine ze ?_ | refine zf ?_ | refine zg ?_ | refine zh ?_ | (refine zi ?_; try refine RgD_plain rfl ?_) | refine w_drawn rfl ?_ | refine zj ?_ | refine zl ?_
 | ((first | apply zs | (apply zt; (focus rfl)) | (apply zu; (focus rfl)) | (apply zv; (focus rfl)) | apply zx | apply zy | apply zB | apply zC | apply zD | apply zE | apply zF); (focus ((conv => lhs; simp (disch := omega) [-env0_get, bound, List.getElem?_cons_zero, List.getElem?_cons_succ, odt, odf, oip, oin, obt, obf, ont, onf, wrapI, owu, ow8, ow32, otd, oe0, oe1, oe2, oe3, oe4, oe5, oe6, otn, ot1, ot2, ot4]); first | done | rfl)); first | apply zk | (apply zn; (focus rfl); try (focus (first | rfl | (simp; done)))) | (apply zo; (focus rfl)) | apply gv_u | apply gv_tt | apply gv_ff | apply gv_ft | apply gv_tf | (apply gv_split <;> intro hc <;> try simp only [decide_eq_true_eq, decide_eq_false_iff_not, beq_iff_eq, beq_eq_false_iff_ne, bne_iff_ne, bne_eq_false_iff_eq, Bool.not_true, Bool.not_false, ne_eq] at hc))
 | (simp (disch := omega) only [thenQ_normal, thenQ_exit, thenQ_ret, blockQ_normal, blockQ_ret, blockQ_exit_same, blockQ_exit_ne]))
  refine w_loop (A := Nat) (fun j env h' => h = h' ∧ env 0 = .slice aw xs.length cw ∧ env 1 = .bool nums ∧ env 5 = sv (joinT ((xs.take j).map (elT nums))) ∧ env 6 = .int .i64 (j : Nat) ∧ j ≤ xs.length ∧ [] ∉ (xs.take j).map (elT nums)) (fun j => xs.length - j) (a0 := 0) ⟨rfl, by simp, by simp, by simp [joinT], by simp, by omega, by simp⟩ ?_
  rintro j env h' ⟨hh, e0, e1, e5, e6, hj, hni⟩
  subst hh
  have hjl := joinT_len ((xs.take j).map (elT nums)) (by
    intro t ht
    obtain ⟨x, hx, rfl⟩ := List.mem_map.1 ht
    exact elT_len (hok x (List.mem_of_mem_take hx)))
  rw [List.length_map, List.length_take, Nat.min_eq_left hj] at hjl
  by_cases hlt : j < xs.length
  · obtain ⟨x, hx⟩ : ∃ x, xs[j]? = some x := ⟨_, List.getElem?_eq_getElem hlt⟩
    have hxo := hok x (List.mem_of_getElem? hx)
    obtain ⟨b, o, cs, rfl, hb, hcs, hga⟩ := hr.all sgC_len (by omega)
    have hg := hga j x hx hlt
    have hg4 : grab cs (o + j * 5) 4 = some [.int .i64 x.s.a, .int .i64 x.s.b, .int .i64 x.s.c, .int .i64 x.s.d] := grab_sub (hga j x hx hlt) (p := 0) (m := 4) (by omega)
    have hg1 : cs[o + j * 5 + 4]? = some (.int .i64 x.v) := grab_get (p := 4) (hga j x hx hlt) (by omega)
    have htk : (xs.take (j + 1)).map (elT nums) = (xs.take j).map (elT nums) ++ [elT nums x] := by rw [List.take_add_one, hx]; simp
    have l1 := boundT_len hxo.1
    have l2 := satT_len hxo.2
    cases ht : boundT x.s with
    | nil =>
      have e : rowT (xs.map (elT nums)) = [] := if_pos (by rw [← elT_nil.2 ht]; exact List.mem_map_of_mem (List.mem_of_getElem? hx))
      rw [e]
      repeat' (first
 | refine za ?_ | refine zb ?_ | refine zc ?_ | refine zd ?_ | refine ze ?_ | refine zf ?_ | refine zg ?_ | refine zh ?_ | (refine zi ?_; try refine RgD_plain rfl ?_) | refine w_drawn rfl ?_ | refine zj ?_ | refine zl ?_
 | ((first | apply zs | (apply zt; (focus rfl)) | (apply zu; (focus rfl)) | (apply zv; (focus rfl)) | apply zw | apply zx | apply zy | apply zB | apply zC | apply zD | apply zE | apply zF); (focus ((conv => lhs; simp (disch := omega) [-env0_get, bound, List.getElem?_cons_zero, List.getElem?_cons_succ, odt, odf, oip, oin, obt, obf, ont, onf, wrapI, owu, ow8, ow32, otd, oe0, oe1, oe2, oe3, oe4, oe5, oe6, otn, ot1, ot2, ot4, e0, e1, e5, e6, hcs, hg4, ht, spV]); first | done | rfl)); first | apply zk | (apply zn; (focus rfl); try (focus (first | rfl | (simp [e0, e1, e5, e6, hcs, hg4, ht, spV]; done)))) | (apply zo; (focus rfl)) | apply gv_u | apply gv_tt | apply gv_ff | apply gv_ft | apply gv_tf | (apply gv_split <;> intro hc <;> try simp only [decide_eq_true_eq, decide_eq_false_iff_not, beq_iff_eq, beq_eq_false_iff_ne, bne_iff_ne, bne_eq_false_iff_eq, Bool.not_true, Bool.not_false, ne_eq] at hc) | exact (boundText2_runs hxo.1))
 | (simp (disch := omega) only [thenQ_normal, thenQ_exit, thenQ_ret, blockQ_normal, blockQ_ret, blockQ_exit_same, blockQ_exit_ne]))
    | cons t0 tr =>
      have hni2 : [] ∉ (xs.take (j + 1)).map (elT nums) := by
        rw [htk, List.mem_append]
        rintro (q | q)
        · exact hni q
        · rw [List.mem_singleton] at q
          rw [elT_nil.1 q.symm] at ht; cases ht
      have hjo := joinT_app ((xs.take j).map (elT nums)) (elT nums x)
      rw [← htk] at hjo
      have hel : elT nums x = (t0 :: tr) ++ (if nums then [61, 62] ++ satT x.v else []) := by
        unfold elT segT; rw [ht]; cases nums <;> simp
      rw [ht, List.length_cons] at l1
      obtain ⟨S, hS⟩ : ∃ S, joinT ((xs.take j).map (elT nums)) = S := ⟨_, rfl⟩
      rw [hS] at e5 hjl hjo
      obtain ⟨J, hJ⟩ : ∃ J, joinT ((xs.take (j + 1)).map (elT nums)) = J := ⟨_, rfl⟩
      rw [hJ] at hjo
      have goal : ∀ env2 : Env, env2 0 = .slice (some ⟨b, o, none⟩) xs.length cw → env2 1 = .bool nums → env2 5 = sv J → env2 6 = .int .i64 ((j + 1 : Nat) : Int) → ∃ j' : Nat, (True ∧ env2 0 = .slice (some ⟨b, o, none⟩) xs.length cw ∧ env2 1 = .bool nums ∧ env2 5 = sv (joinT ((xs.take j').map (elT nums))) ∧ env2 6 = .int .i64 (j' : Nat) ∧ j' ≤ xs.length ∧ [] ∉ (xs.take j').map (elT nums)) ∧ xs.length - j' < xs.length - j :=
        fun env2 d0 d1 d5 d6 => ⟨j + 1, ⟨trivial, d0, d1, by rw [hJ]; exact d5, d6, by omega, hni2⟩, by omega⟩
      rw [hel] at hjo
      by_cases hj0 : j = 0
      · subst hj0
        rw [if_pos (by simp)] at hjo
        have hS0 : S = [] := by rw [← hS]; rfl
        subst hS0
        rw [Nat.zero_mul, Nat.add_zero] at hg4 hg1
        cases nums
        all_goals simp only [Bool.false_eq_true, if_false, if_true] at hjo
        · repeat' (first
 | refine za ?_ | refine zb ?_ | refine zc ?_ | refine zd ?_ | refine ze ?_ | refine zf ?_ | refine zg ?_ | refine zh ?_ | (refine zi ?_; try refine RgD_plain rfl ?_) | refine w_drawn rfl ?_ | refine zj ?_ | refine zl ?_
 | ((first | apply zs | (apply zt; (focus rfl)) | (apply zu; (focus rfl)) | (apply zv; (focus rfl)) | apply zw | apply zx | apply zy | apply zB | apply zC | apply zD | apply zE | apply zF); (focus ((conv => lhs; simp (disch := omega) [-env0_get, bound, List.getElem?_cons_zero, List.getElem?_cons_succ, odt, odf, oip, oin, obt, obf, ont, onf, wrapI, owu, ow8, ow32, otd, oe0, oe1, oe2, oe3, oe4, oe5, oe6, otn, ot1, ot2, ot4, e0, e1, e5, e6, hcs, hg4, ht, spV, binS]); first | done | rfl)); first | apply zk | (apply zn; (focus rfl); try (focus (first | rfl | (simp [e0, e1, e5, e6, hcs, hg4, ht, spV, binS]; done)))) | (apply zo; (focus rfl)) | apply gv_u | apply gv_tt | apply gv_ff | apply gv_ft | apply gv_tf | (apply gv_split <;> intro hc <;> try simp only [decide_eq_true_eq, decide_eq_false_iff_not, beq_iff_eq, beq_eq_false_iff_ne, bne_iff_ne, bne_eq_false_iff_eq, Bool.not_true, Bool.not_false, ne_eq] at hc) | exact (boundText2_runs hxo.1))
 | (simp (disch := omega) only [thenQ_normal, thenQ_exit, thenQ_ret, blockQ_normal, blockQ_ret, blockQ_exit_same, blockQ_exit_ne]))
          refine goal _ ?_ ?_ ?_ ?_ <;> simp [e0, e1, hjo]
        · repeat' (first
 | refine za ?_ | refine zb ?_ | refine zc ?_ | refine zd ?_ | refine ze ?_ | refine zf ?_ | refine zg ?_ | refine zh ?_ | (refine zi ?_; try refine RgD_plain rfl ?_) | refine w_drawn rfl ?_ | refine zj ?_ | refine zl ?_
 | ((first | apply zs | (apply zt; (focus rfl)) | (apply zu; (focus rfl)) | (apply zv; (focus rfl)) | apply zw | apply zx | apply zy | apply zB | apply zC | apply zD | apply zE | apply zF); (focus ((conv => lhs; simp (disch := omega) [-env0_get, bound, List.getElem?_cons_zero, List.getElem?_cons_succ, odt, odf, oip, oin, obt, obf, ont, onf, wrapI, owu, ow8, ow32, otd, oe0, oe1, oe2, oe3, oe4, oe5, oe6, otn, ot1, ot2, ot4, e0, e1, e5, e6, hcs, hg4, hg1, ht, spV, binS]); first | done | rfl)); first | apply zk | (apply zn; (focus rfl); try (focus (first | rfl | (simp [e0, e1, e5, e6, hcs, hg4, hg1, ht, spV, binS]; done)))) | (apply zo; (focus rfl)) | apply gv_u | apply gv_tt | apply gv_ff | apply gv_ft | apply gv_tf | (apply gv_split <;> intro hc <;> try simp only [decide_eq_true_eq, decide_eq_false_iff_not, beq_iff_eq, beq_eq_false_iff_ne, bne_iff_ne, bne_eq_false_iff_eq, Bool.not_true, Bool.not_false, ne_eq] at hc) | exact (boundText2_runs hxo.1) | exact (bigText_runs hxo.2))
 | (simp (disch := omega) only [thenQ_normal, thenQ_exit, thenQ_ret, blockQ_normal, blockQ_ret, blockQ_exit_same, blockQ_exit_ne]))
          refine goal _ ?_ ?_ ?_ ?_ <;> simp [e0, e1, hjo]
      · have hne : ¬ (xs.take j).map (elT nums) = [] := fun e => by have := congrArg List.length e; rw [List.length_map, List.length_take] at this; simp only [List.length_nil] at this; omega
        rw [if_neg hne] at hjo
        cases nums
        all_goals simp only [Bool.false_eq_true, if_false, if_true] at hjo
        · repeat' (first
 | refine za ?_ | refine zb ?_ | refine zc ?_ | refine zd ?_ | refine ze ?_ | refine zf ?_ | refine zg ?_ | refine zh ?_ | (refine zi ?_; try refine RgD_plain rfl ?_) | refine w_drawn rfl ?_ | refine zj ?_ | refine zl ?_
 | ((first | apply zs | (apply zt; (focus rfl)) | (apply zu; (focus rfl)) | (apply zv; (focus rfl)) | apply zw | apply zx | apply zy | apply zB | apply zC | apply zD | apply zE | apply zF); (focus ((conv => lhs; simp (disch := omega) [-env0_get, bound, List.getElem?_cons_zero, List.getElem?_cons_succ, odt, odf, oip, oin, obt, obf, ont, onf, wrapI, owu, ow8, ow32, otd, oe0, oe1, oe2, oe3, oe4, oe5, oe6, otn, ot1, ot2, ot4, e0, e1, e5, e6, hcs, hg4, ht, spV, binS]); first | done | rfl)); first | apply zk | (apply zn; (focus rfl); try (focus (first | rfl | (simp [e0, e1, e5, e6, hcs, hg4, ht, spV, binS]; done)))) | (apply zo; (focus rfl)) | apply gv_u | apply gv_tt | apply gv_ff | apply gv_ft | apply gv_tf | (apply gv_split <;> intro hc <;> try simp only [decide_eq_true_eq, decide_eq_false_iff_not, beq_iff_eq, beq_eq_false_iff_ne, bne_iff_ne, bne_eq_false_iff_eq, Bool.not_true, Bool.not_false, ne_eq] at hc) | exact (boundText2_runs hxo.1))
 | (simp (disch := omega) only [thenQ_normal, thenQ_exit, thenQ_ret, blockQ_normal, blockQ_ret, blockQ_exit_same, blockQ_exit_ne]))
          refine goal _ ?_ ?_ ?_ ?_ <;> simp [e0, e1, hjo]
        · repeat' (first
 | refine za ?_ | refine zb ?_ | refine zc ?_ | refine zd ?_ | refine ze ?_ | refine zf ?_ | refine zg ?_ | refine zh ?_ | (refine zi ?_; try refine RgD_plain rfl ?_) | refine w_drawn rfl ?_ | refine zj ?_ | refine zl ?_
 | ((first | apply zs | (apply zt; (focus rfl)) | (apply zu; (focus rfl)) | (apply zv; (focus rfl)) | apply zw | apply zx | apply zy | apply zB | apply zC | apply zD | apply zE | apply zF); (focus ((conv => lhs; simp (disch := omega) [-env0_get, bound, List.getElem?_cons_zero, List.getElem?_cons_succ, odt, odf, oip, oin, obt, obf, ont, onf, wrapI, owu, ow8, ow32, otd, oe0, oe1, oe2, oe3, oe4, oe5, oe6, otn, ot1, ot2, ot4, e0, e1, e5, e6, hcs, hg4, hg1, ht, spV, binS]); first | done | rfl)); first | apply zk | (apply zn; (focus rfl); try (focus (first | rfl | (simp [e0, e1, e5, e6, hcs, hg4, hg1, ht, spV, binS]; done)))) | (apply zo; (focus rfl)) | apply gv_u | apply gv_tt | apply gv_ff | apply gv_ft | apply gv_tf | (apply gv_split <;> intro hc <;> try simp only [decide_eq_true_eq, decide_eq_false_iff_not, beq_iff_eq, beq_eq_false_iff_ne, bne_iff_ne, bne_eq_false_iff_eq, Bool.not_true, Bool.not_false, ne_eq] at hc) | exact (boundText2_runs hxo.1) | exact (bigText_runs hxo.2))
 | (simp (disch := omega) only [thenQ_normal, thenQ_exit, thenQ_ret, blockQ_normal, blockQ_ret, blockQ_exit_same, blockQ_exit_ne]))
          refine goal _ ?_ ?_ ?_ ?_ <;> simp [e0, e1, hjo]
  · have hjn : j = xs.length := by omega
    subst hjn
    rw [List.take_of_length_le (Nat.le_refl _)] at e5 hni
    have e : rowT (xs.map (elT nums)) = joinT (xs.map (elT nums)) := if_neg hni
    rw [e]
    repeat' (first
 | refine za ?_ | refine zb ?_ | refine zc ?_ | refine zd ?_ | refine ze ?_ | refine zf ?_ | refine zg ?_ | refine zh ?_ | (refine zi ?_; try refine RgD_plain rfl ?_) | refine w_drawn rfl ?_ | refine zj ?_ | refine zl ?_
 | ((first | apply zs | (apply zt; (focus rfl)) | (apply zu; (focus rfl)) | (apply zv; (focus rfl)) | apply zx | apply zy | apply zB | apply zC | apply zD | apply zE | apply zF); (focus ((conv => lhs; simp (disch := omega) [-env0_get, bound, List.getElem?_cons_zero, List.getElem?_cons_succ, odt, odf, oip, oin, obt, obf, ont, onf, wrapI, owu, ow8, ow32, otd, oe0, oe1, oe2, oe3, oe4, oe5, oe6, otn, ot1, ot2, ot4, e0, e1, e5, e6]); first | done | rfl)); first | apply zk | (apply zn; (focus rfl); try (focus (first | rfl | (simp [e0, e1, e5, e6]; done)))) | (apply zo; (focus rfl)) | apply gv_u | apply gv_tt | apply gv_ff | apply gv_ft | apply gv_tf | (apply gv_split <;> intro hc <;> try simp only [decide_eq_true_eq, decide_eq_false_iff_not, beq_iff_eq, beq_eq_false_iff_ne, bne_iff_ne, bne_eq_false_iff_eq, Bool.not_true, Bool.not_false, ne_eq] at hc))
 | (simp (disch := omega) only [thenQ_normal, thenQ_exit, thenQ_ret, blockQ_normal, blockQ_ret, blockQ_exit_same, blockQ_exit_ne]))
end Go.Proofs.Ytlgbeekhaoiggaa
end

section
namespace Go.Proofs.Ytlgbeekhaoiggaa
open Go.AM
set_option maxHeartbeats 4000000
variable {f : Nat} {h : Heap}
theorem textWrites_runs {v : Value} {xs : List Sg} (hr : GRow h v xs) (hok : ∀ x ∈ xs, okG x) : Runs X ⟨f, []⟩ 4 [v] h (.bool true) h := by
  refine Runs_of rfl f4_is ?_
  obtain ⟨aw, cw, rfl⟩ := hr.form
  simp only [f4r0, f4r1, f4r2, f4r3, f4b]
  by_cases hbig : 50 < xs.length
  · repeat' (first
 | refine za ?_ | refine zb ?_ | refine zc ?_ | refine zd ?_ | refine ze ?_ | refine zf ?_ | refine zg ?_ | refine zh ?_ | (refine zi ?_; try refine RgD_plain rfl ?_) | refine w_drawn rfl ?_ | refine zj ?_ | refine zl ?_
 | ((first | apply zs | (apply zt; (focus rfl)) | (apply zu; (focus rfl)) | (apply zv; (focus rfl)) | apply zw | apply zx | apply zy | apply zB | apply zC | apply zD | apply zE | apply zF); (focus ((conv => lhs; simp (disch := omega) [-env0_get, bound, List.getElem?_cons_zero, List.getElem?_cons_succ, odt, odf, oip, oin, obt, obf, ont, onf, wrapI, owu, ow8, ow32, otd, oe0, oe1, oe2, oe3, oe4, oe5, oe6, otn, ot1, ot2, ot4]); first | done | rfl)); first | apply zk | (apply zn; (focus rfl); try (focus (first | rfl | (simp; done)))) | (apply zo; (focus rfl)) | apply gv_u | apply gv_tt | apply gv_ff | apply gv_ft | apply gv_tf | (apply gv_split <;> intro hc <;> try simp only [decide_eq_true_eq, decide_eq_false_iff_not, beq_iff_eq, beq_eq_false_iff_ne, bne_iff_ne, bne_eq_false_iff_eq, Bool.not_true, Bool.not_false, ne_eq] at hc) | exact alive18_runs)
 | (simp (disch := omega) only [thenQ_normal, thenQ_exit, thenQ_ret, blockQ_normal, blockQ_ret, blockQ_exit_same, blockQ_exit_ne]))
  have e1 : xs.map (elT true) = xs.map segT := rfl
  have e2 : xs.map (elT false) = (xs.map (·.s)).map boundT := by rw [List.map_map]; rfl
  obtain ⟨S1, hS1⟩ : ∃ S, rowT (xs.map segT) = S := ⟨_, rfl⟩
  obtain ⟨S2, hS2⟩ : ∃ S, rowT ((xs.map (·.s)).map boundT) = S := ⟨_, rfl⟩
  have c1 := fun f => segsT_runs (f := f) hr (by omega) hok
  have c2 := fun f => text18_R (f := f) (nums := true) hr (by omega) hok
  rw [hS1] at c1
  rw [e1, hS1] at c2
  have hsz : h.size ≤ h.size := Nat.le_refl _
  repeat' (first
 | refine za ?_ | refine zb ?_ | refine zc ?_ | refine zd ?_ | refine ze ?_ | refine zf ?_ | refine zg ?_ | refine zh ?_ | (refine zi ?_; try refine RgD_plain rfl ?_) | refine w_drawn rfl ?_ | refine zj ?_ | refine zl ?_
 | ((first | apply zs | (apply zt; (focus rfl)) | (apply zu; (focus rfl)) | (apply zv; (focus rfl)) | apply zw | apply zx | apply zy | apply zB | apply zC | apply zD | apply zE | apply zF); (focus ((conv => lhs; simp (disch := omega) [-env0_get, bound, List.getElem?_cons_zero, List.getElem?_cons_succ, odt, odf, oip, oin, obt, obf, ont, onf, wrapI, owu, ow8, ow32, otd, oe0, oe1, oe2, oe3, oe4, oe5, oe6, otn, ot1, ot2, ot4, binS]); first | done | rfl)); first | apply zk | (apply zn; (focus rfl); try (focus (first | rfl | (simp [binS]; done)))) | (apply zo; (focus rfl)) | apply gv_u | apply gv_tt | apply gv_ff | apply gv_ft | apply gv_tf | (apply gv_split <;> intro hc <;> try simp only [decide_eq_true_eq, decide_eq_false_iff_not, beq_iff_eq, beq_eq_false_iff_ne, bne_iff_ne, bne_eq_false_iff_eq, Bool.not_true, Bool.not_false, ne_eq] at hc) | exact alive18_runs | exact (c1 _) | exact (c2 _))
 | (simp (disch := omega) only [thenQ_normal, thenQ_exit, thenQ_ret, blockQ_normal, blockQ_ret, blockQ_exit_same, blockQ_exit_ne]))
  (apply zW; (focus ((conv => lhs; simp (disch := omega) [-env0_get, bound, List.getElem?_cons_zero, List.getElem?_cons_succ, odt, odf, oip, oin, obt, obf, ont, onf, wrapI, owu, ow8, ow32, otd, oe0, oe1, oe2, oe3, oe4, oe5, oe6, otn, ot1, ot2, ot4]); first | done | rfl)); (focus exact (spans18_R hr (by omega) (by omega)))); intro v1 h1 q1
  obtain ⟨k1, r1⟩ := q1
  have hr1 := hr.keepB k1 (.inl rfl)
  have c3 := fun f => spansT_runs (f := f) r1 (by simp; omega) (by intro x hx; obtain ⟨y, hy, rfl⟩ := List.mem_map.1 hx; exact (hok y hy).1)
  have c4 := fun f => text18_R (f := f) (nums := false) hr1 (by omega) hok
  rw [hS2] at c3
  rw [e2, hS2] at c4
  repeat' (first
 | refine za ?_ | refine zb ?_ | refine zc ?_ | refine zd ?_ | refine ze ?_ | refine zf ?_ | refine zg ?_ | refine zh ?_ | (refine zi ?_; try refine RgD_plain rfl ?_) | refine w_drawn rfl ?_ | refine zj ?_ | refine zl ?_
 | ((first | apply zs | (apply zt; (focus rfl)) | (apply zu; (focus rfl)) | (apply zv; (focus rfl)) | apply zw | apply zx | apply zy | apply zB | apply zC | apply zD | apply zE | apply zF); (focus ((conv => lhs; simp (disch := omega) [-env0_get, bound, List.getElem?_cons_zero, List.getElem?_cons_succ, odt, odf, oip, oin, obt, obf, ont, onf, wrapI, owu, ow8, ow32, otd, oe0, oe1, oe2, oe3, oe4, oe5, oe6, otn, ot1, ot2, ot4, binS]); first | done | rfl)); first | apply zk | (apply zn; (focus rfl); try (focus (first | rfl | (simp [binS]; done)))) | (apply zo; (focus rfl)) | apply gv_u | apply gv_tt | apply gv_ff | apply gv_ft | apply gv_tf | (apply gv_split <;> intro hc <;> try simp only [decide_eq_true_eq, decide_eq_false_iff_not, beq_iff_eq, beq_eq_false_iff_ne, bne_iff_ne, bne_eq_false_iff_eq, Bool.not_true, Bool.not_false, ne_eq] at hc) | exact (c3 _) | exact (c4 _))
 | (simp (disch := omega) only [thenQ_normal, thenQ_exit, thenQ_ret, blockQ_normal, blockQ_ret, blockQ_exit_same, blockQ_exit_ne]))
end Go.Proofs.Ytlgbeekhaoiggaa
end
