import Derived.Test.YtlgbeekhaoiggaaCodeI
set_option linter.all false
section
namespace Go.Proofs.Ytlgbeekhaoiggaa
open Go.AM
set_option maxHeartbeats 4000000
variable {f : Nat} {h : Heap}
theorem lenG (xs : List Sg) : (elems sgC xs).length = xs.length * 5 := elems_len (enc := sgC) (k := 5) (fun _ => rfl) xs
theorem allG_R {p : Nat} {l : List UInt8} {lo : Bool} (hp : h[p]? = some (tdO l lo 0)) (hf : f ≤ p) (hfs : f ≤ h.size) (hl : l.length ≤ 900000) :
    callR X ⟨f, []⟩ 84 [ptr p, .func (.func 85) #[ptr p] #[], .func (.func 86) #[] #[]] h fun v h' => ∃ w, v = triR w (rowR true lo l).2.1 (rowR true lo l).2.2 ∧ Buf f h' 57 5 w (elems sgC (rowR true lo l).1) ∧ KeepB h h' (some p) := by
  have hpl := lt_of hp
  have hcp := cellsAt_of hp
  have hnil : ∀ h' : Heap, Buf f h' 57 5 (.slice none 0 0) (elems sgC []) := fun _ => .inl ⟨rfl, rfl⟩
  refine callR_of rfl f84_is ?_
  simp only [f84b]
  generalize hC2 : (ACode.seq (ACode.seq (ACode.reg f84r19) _) _) = C2
  simp only [f84r0, f84r1, f84r2, f84r3, f84r4, f84r5]
  by_cases hbig : l.length > 65536
  · have e : rowR true lo l = ([], 0, 180) := by unfold rowR; rw [if_pos hbig]
    rw [e]
    repeat' (first
 | refine za ?_ | refine zb ?_ | refine zc ?_ | refine zd ?_ | refine ze ?_ | refine zf ?_ | refine zg ?_ | refine zh ?_ | (refine zi ?_; try refine RgD_plain rfl ?_) | refine w_drawn rfl ?_ | refine zj ?_ | refine zl ?_
 | ((first | apply zs | (apply zt; (focus rfl)) | (apply zu; (focus rfl)) | (apply zv; (focus rfl)) | apply zx | apply zy | apply zB | apply zC | apply zD | apply zE | apply zF); (focus ((conv => lhs; simp (disch := omega) [-env0_get, bound, List.getElem?_cons_zero, List.getElem?_cons_succ, odt, odf, oip, oin, obt, obf, ont, onf, wrapI, owu, ow8, ow32, otd, oe0, oe1, oe2, oe3, oe4, oe5, oe6, otn, ot1, ot2, ot4, hcp]); first | done | rfl)); first | apply zk | (apply zn; (focus rfl); try (focus (first | rfl | (simp [hcp]; done)))) | (apply zo; (focus rfl)) | apply gv_u | apply gv_tt | apply gv_ff | apply gv_ft | apply gv_tf | (apply gv_split <;> intro hc <;> try simp only [decide_eq_true_eq, decide_eq_false_iff_not, beq_iff_eq, beq_eq_false_iff_ne, bne_iff_ne, bne_eq_false_iff_eq, Bool.not_true, Bool.not_false, ne_eq] at hc))
 | (simp (disch := omega) only [thenQ_normal, thenQ_exit, thenQ_ret, blockQ_normal, blockQ_ret, blockQ_exit_same, blockQ_exit_ne]))
    exact ⟨_, rfl, hnil _, .refl _ _⟩
  have hi0 := sk_le (lo := lo) (l := l) (i := 0) (by omega)
  have hid0 := sk_idem lo l 0
  obtain ⟨i0, hs0⟩ : ∃ i0, sk lo l 0 = i0 := ⟨_, rfl⟩
  rw [hs0] at hi0 hid0
  have eR : rowR true lo l = if (rowE true lo l true i0).2.2 ≠ 0 then ([], (rowE true lo l true i0).2) else
      match (if lo then none else fb none (rowE true lo l true i0).1) with
      | some b => ([], b, 180)
      | none => ((rowE true lo l true i0).1.map (·.1), l.length, 0) := by unfold rowR; rw [if_neg hbig, hs0]; first | done | rfl
  generalize rowR true lo l = R at eR ⊢
  repeat' (first
 | refine za ?_ | refine zb ?_ | refine zc ?_ | refine zd ?_ | refine ze ?_ | refine zf ?_ | refine zg ?_ | refine zh ?_ | (refine zi ?_; try refine RgD_plain rfl ?_) | refine w_drawn rfl ?_ | refine zj ?_ | refine zl ?_
 | ((first | apply zs | (apply zt; (focus rfl)) | (apply zu; (focus rfl)) | (apply zv; (focus rfl)) | apply zx | apply zy | apply zB | apply zC | apply zD | apply zE | apply zF); (focus ((conv => lhs; simp (disch := omega) [-env0_get, bound, List.getElem?_cons_zero, List.getElem?_cons_succ, odt, odf, oip, oin, obt, obf, ont, onf, wrapI, owu, ow8, ow32, otd, oe0, oe1, oe2, oe3, oe4, oe5, oe6, otn, ot1, ot2, ot4, hcp]); first | done | rfl)); first | apply zk | (apply zn; (focus rfl); try (focus (first | rfl | (simp [hcp]; done)))) | (apply zo; (focus rfl)) | apply gv_u | apply gv_tt | apply gv_ff | apply gv_ft | apply gv_tf | (apply gv_split <;> intro hc <;> try simp only [decide_eq_true_eq, decide_eq_false_iff_not, beq_iff_eq, beq_eq_false_iff_ne, bne_iff_ne, bne_eq_false_iff_eq, Bool.not_true, Bool.not_false, ne_eq] at hc))
 | (simp (disch := omega) only [thenQ_normal, thenQ_exit, thenQ_ret, blockQ_normal, blockQ_ret, blockQ_exit_same, blockQ_exit_ne]))
  (apply zW; (focus ((conv => lhs; simp (disch := omega) [-env0_get, bound, List.getElem?_cons_zero, List.getElem?_cons_succ, odt, odf, oip, oin, obt, obf, ont, onf, wrapI, owu, ow8, ow32, otd, oe0, oe1, oe2, oe3, oe4, oe5, oe6, otn, ot1, ot2, ot4, hcp]); first | done | rfl)); (focus exact (tblanks_R hp hf hfs hl (by omega)))); intro v1 h1 q1
  obtain ⟨rfl, p1, k1⟩ := q1
  rw [hs0] at p1
  have A1 : AS f p h h1 l lo i0 57 5 (.slice none 0 0) (elems sgC []) (.slice none 0 0) [] :=
    ⟨p1, .inl ⟨rfl, rfl⟩, .inl ⟨rfl, rfl⟩, k1, fun y hy => by simp [blk] at hy, fun y hy => by simp [blk] at hy⟩
  clear p1 k1
  repeat' (first
 | refine za ?_ | refine zb ?_ | refine zc ?_ | refine zd ?_ | refine ze ?_ | refine zf ?_ | refine zg ?_ | refine zh ?_ | (refine zi ?_; try refine RgD_plain rfl ?_) | refine w_drawn rfl ?_ | refine zj ?_ | refine zl ?_
 | ((first | apply zs | (apply zt; (focus rfl)) | (apply zu; (focus rfl)) | (apply zv; (focus rfl)) | apply zx | apply zy | apply zB | apply zC | apply zD | apply zE | apply zF); (focus ((conv => lhs; simp (disch := omega) [-env0_get, bound, List.getElem?_cons_zero, List.getElem?_cons_succ, odt, odf, oip, oin, obt, obf, ont, onf, wrapI, owu, ow8, ow32, otd, oe0, oe1, oe2, oe3, oe4, oe5, oe6, otn, ot1, ot2, ot4]); first | done | rfl)); first | apply zk | (apply zn; (focus rfl); try (focus (first | rfl | (simp; done)))) | (apply zo; (focus rfl)) | apply gv_u | apply gv_tt | apply gv_ff | apply gv_ft | apply gv_tf | (apply gv_split <;> intro hc <;> try simp only [decide_eq_true_eq, decide_eq_false_iff_not, beq_iff_eq, beq_eq_false_iff_ne, bne_iff_ne, bne_eq_false_iff_eq, Bool.not_true, Bool.not_false, ne_eq] at hc))
 | (simp (disch := omega) only [thenQ_normal, thenQ_exit, thenQ_ret, blockQ_normal, blockQ_ret, blockQ_exit_same, blockQ_exit_ne]))
  refine w_loop (A := List (Sg × Nat) × Nat × Value × Value) (fun a env h' => env 0 = ptr p ∧ env 1 = .func (.func 85) #[ptr p] #[] ∧ env 2 = .func (.func 86) #[] #[] ∧ env 9 = a.2.2.1 ∧ env 10 = a.2.2.2 ∧ a.2.1 ≤ l.length ∧ sk lo l a.2.1 = a.2.1 ∧ a.1.length ≤ a.2.1 ∧
    AS f p h h' l lo a.2.1 57 5 a.2.2.1 (elems sgC (a.1.map (·.1))) a.2.2.2 (a.1.map (·.2)) ∧
    (rowE true lo l true i0).1 = a.1 ++ (rowE true lo l a.1.isEmpty a.2.1).1 ∧ (rowE true lo l true i0).2 = (rowE true lo l a.1.isEmpty a.2.1).2) (fun a => l.length - a.2.1) (a0 := ([], i0, .slice none 0 0, .slice none 0 0))
    ⟨by simp, by simp, by simp, by simp, by simp, hi0, hid0, by simp, A1, rfl, rfl⟩ ?_
  clear A1
  rintro ⟨acc, i, w, wb⟩ env h2 ⟨e0, e1, e2, e9, e10, hi, hid, hai, A, r1, r2⟩
  simp only at e9 e10 hi hid hai A r1 r2
  have hml : (acc.map (·.1)).length = acc.length := List.length_map _
  have hml2 : (acc.map (·.2)).length = acc.length := List.length_map _
  have hrow : Row h2 57 5 w acc.length (elems sgC (acc.map (·.1))) := A.gw.row (by omega) (by rw [lenG, hml])
  have hrowb : NRow h2 wb (acc.map (·.2)) := A.gb.row (by omega) (by simp [nvs])
  obtain ⟨aw, cw, rfl⟩ := hrow.form
  obtain ⟨ab, cb, rfl⟩ := hrowb.form
  rw [hml2] at e10 A
  have hsz := A.kp.1
  have hplt := lt_of A.gr
  have c2 := cellsAt_of A.gr
  by_cases hlt : i < l.length
  · simp only [f84l18, f84r6, f84r7, f84r8, f84r9, f84r10, f84r11]
    generalize hC3 : (ACode.seq (ACode.reg f84r12) _) = C3
    obtain ⟨fi, hfi⟩ : ∃ fi, acc.isEmpty = fi := ⟨_, rfl⟩
    rw [hfi] at r1 r2
    have hfl : (fi = true → acc.length = 0) ∧ (fi = false → 0 < acc.length) := by rw [← hfi]; cases acc <;> simp
    obtain ⟨a, ha⟩ : ∃ a, begA fi lo l i = a := ⟨_, rfl⟩
    obtain ⟨hale, hage⟩ := begA_ok fi lo hlt
    rw [ha] at hale hage
    -- what comes behind the sign
    have rest : (fi = true ∨ isAt l i [59] = true) → ∀ (env2 : Env) (h3 : Heap), env2 0 = ptr p → env2 1 = .func (.func 85) #[ptr p] #[] → env2 2 = .func (.func 86) #[] #[] → env2 9 = .slice aw acc.length cw → env2 10 = .slice ab acc.length cb →
        AS f p h h3 l lo a 57 5 (.slice aw acc.length cw) (elems sgC (acc.map (·.1))) (.slice ab acc.length cb) (acc.map (·.2)) → Ok X ⟨f, []⟩ C3 env2 h3 (blockQ 1 (thenQ (fun e h' => ∃ a' : List (Sg × Nat) × Nat × Value × Value, (e 0 = ptr p ∧ e 1 = .func (.func 85) #[ptr p] #[] ∧ e 2 = .func (.func 86) #[] #[] ∧ e 9 = a'.2.2.1 ∧ e 10 = a'.2.2.2 ∧ a'.2.1 ≤ l.length ∧ sk lo l a'.2.1 = a'.2.1 ∧ a'.1.length ≤ a'.2.1 ∧
    AS f p h h' l lo a'.2.1 57 5 a'.2.2.1 (elems sgC (a'.1.map (·.1))) a'.2.2.2 (a'.1.map (·.2)) ∧
    (rowE true lo l true i0).1 = a'.1 ++ (rowE true lo l a'.1.isEmpty a'.2.1).1 ∧ (rowE true lo l true i0).2 = (rowE true lo l a'.1.isEmpty a'.2.1).2) ∧ l.length - a'.2.1 < l.length - i)
      (blockQ 0 (thenQ (fun e hh => Ok X ⟨f, []⟩ C2 e hh (EndsR [.tmp 6, .tmp 7, .tmp 8] .plain h fun v h' => ∃ w, v = triR w R.2.1 R.2.2 ∧ Buf f h' 57 5 w (elems sgC R.1) ∧ KeepB h h' (some p))) (EndsR [.tmp 6, .tmp 7, .tmp 8] .plain h fun v h' => ∃ w, v = triR w R.2.1 R.2.2 ∧ Buf f h' 57 5 w (elems sgC R.1) ∧ KeepB h h' (some p)))))) := by
      intro hs env2 h3 d0 d1 d2 d9 d10 A3
      rw [← hC3]
      clear hC3 hcp c2 A hrow hrowb hnil
      have hsz3 := A3.kp.1
      have c3 := cellsAt_of A3.gr
      have g3 := lt_of A3.gr
      repeat' (first
 | refine za ?_ | refine zb ?_ | refine zc ?_ | refine zd ?_ | refine ze ?_ | refine zf ?_ | refine zg ?_ | refine zh ?_ | (refine zi ?_; try refine RgD_plain rfl ?_) | refine w_drawn rfl ?_ | refine zj ?_ | refine zl ?_
 | ((first | apply zs | (apply zt; (focus rfl)) | (apply zu; (focus rfl)) | (apply zv; (focus rfl)) | apply zx | apply zy | apply zB | apply zC | apply zD | apply zE | apply zF); (focus ((conv => lhs; simp (disch := omega) [-env0_get, bound, List.getElem?_cons_zero, List.getElem?_cons_succ, odt, odf, oip, oin, obt, obf, ont, onf, wrapI, owu, ow8, ow32, otd, oe0, oe1, oe2, oe3, oe4, oe5, oe6, otn, ot1, ot2, ot4, d0, d1, d2, d9, d10, c3]); first | done | rfl)); first | apply zk | (apply zn; (focus rfl); try (focus (first | rfl | (simp [d0, d1, d2, d9, d10, c3]; done)))) | (apply zo; (focus rfl)) | apply gv_u | apply gv_tt | apply gv_ff | apply gv_ft | apply gv_tf | (apply gv_split <;> intro hc <;> try simp only [decide_eq_true_eq, decide_eq_false_iff_not, beq_iff_eq, beq_eq_false_iff_ne, bne_iff_ne, bne_eq_false_iff_eq, Bool.not_true, Bool.not_false, ne_eq] at hc))
 | (simp (disch := omega) only [thenQ_normal, thenQ_exit, thenQ_ret, blockQ_normal, blockQ_ret, blockQ_exit_same, blockQ_exit_ne]))
      obtain ⟨wb4, h4, q4, A4, g4⟩ := (A3.push hpl (.cells [.int .i64 (a : Nat)] 3)).addB (n := a) (x := .slice (some ⟨h3.size, 0, none⟩) 1 1) hpl hfs (by omega) (by simp [srcCells])
      refine w_mem (v := wb4) (h' := h4) rfl (by simpa [d10] using q4) ?_
      have hsz4 := A4.kp.1
      simp only [Array.size_push] at g4
      simp only [f84r13, f84r14, f84r15, f84r16, f84r17]
      repeat' (first
 | refine za ?_ | refine zb ?_ | refine zc ?_ | refine zd ?_ | refine ze ?_ | refine zf ?_ | refine zg ?_ | refine zh ?_ | (refine zi ?_; try refine RgD_plain rfl ?_) | refine w_drawn rfl ?_ | refine zj ?_ | refine zl ?_
 | ((first | apply zs | (apply zt; (focus rfl)) | (apply zu; (focus rfl)) | (apply zv; (focus rfl)) | apply zx | apply zy | apply zB | apply zC | apply zD | apply zE | apply zF); (focus ((conv => lhs; simp (disch := omega) [-env0_get, bound, List.getElem?_cons_zero, List.getElem?_cons_succ, odt, odf, oip, oin, obt, obf, ont, onf, wrapI, owu, ow8, ow32, otd, oe0, oe1, oe2, oe3, oe4, oe5, oe6, otn, ot1, ot2, ot4, d0, d1, d2, d9]); first | done | rfl)); first | apply zk | (apply zn; (focus rfl); try (focus (first | rfl | (simp [d0, d1, d2, d9]; done)))) | (apply zo; (focus rfl)) | apply gv_u | apply gv_tt | apply gv_ff | apply gv_ft | apply gv_tf | (apply gv_split <;> intro hc <;> try simp only [decide_eq_true_eq, decide_eq_false_iff_not, beq_iff_eq, beq_eq_false_iff_ne, bne_iff_ne, bne_eq_false_iff_eq, Bool.not_true, Bool.not_false, ne_eq] at hc))
 | (simp (disch := omega) only [thenQ_normal, thenQ_exit, thenQ_ret, blockQ_normal, blockQ_ret, blockQ_exit_same, blockQ_exit_ne]))
      (apply zW; (focus ((conv => lhs; simp (disch := omega) [-env0_get, bound, List.getElem?_cons_zero, List.getElem?_cons_succ, odt, odf, oip, oin, obt, obf, ont, onf, wrapI, owu, ow8, ow32, otd, oe0, oe1, oe2, oe3, oe4, oe5, oe6, otn, ot1, ot2, ot4, d0, d1, d2, d9]); first | done | rfl)); (focus exact (tseg_R A4.gr hf (by omega) hl hale))); intro v5 h5 q5
      obtain ⟨rfl, p5, k5⟩ := q5
      have A5 := A4.keep hpl p5 k5
      have hsz5 := A5.kp.1
      obtain ⟨o1, o2⟩ := oneN_ok true lo hale
      rcases hone : oneN true lo l a with ⟨x, pl, er⟩
      rw [hone] at o1 o2 A5 p5
      simp only at o1 o2 A5 p5
      have c5 := cellsAt_of p5
      have g5 := lt_of p5
      simp only []
      by_cases he : er = 0
      · subst he
        obtain ⟨g1, g2, g3'⟩ := rowE_go (nums := true) hlt hs (by rw [ha, hone])
        repeat' (first
 | refine za ?_ | refine zb ?_ | refine zc ?_ | refine zd ?_ | refine ze ?_ | refine zf ?_ | refine zg ?_ | refine zh ?_ | (refine zi ?_; try refine RgD_plain rfl ?_) | refine w_drawn rfl ?_ | refine zj ?_ | refine zl ?_
 | ((first | apply zs | (apply zt; (focus rfl)) | (apply zu; (focus rfl)) | (apply zv; (focus rfl)) | apply zx | apply zy | apply zB | apply zC | apply zD | apply zE | apply zF); (focus ((conv => lhs; simp (disch := omega) [-env0_get, bound, List.getElem?_cons_zero, List.getElem?_cons_succ, odt, odf, oip, oin, obt, obf, ont, onf, wrapI, owu, ow8, ow32, otd, oe0, oe1, oe2, oe3, oe4, oe5, oe6, otn, ot1, ot2, ot4, d0, d1, d2, d9, sgC]); first | done | rfl)); first | apply zk | (apply zn; (focus rfl); try (focus (first | rfl | (simp [d0, d1, d2, d9, sgC]; done)))) | (apply zo; (focus rfl)) | apply gv_u | apply gv_tt | apply gv_ff | apply gv_ft | apply gv_tf | (apply gv_split <;> intro hc <;> try simp only [decide_eq_true_eq, decide_eq_false_iff_not, beq_iff_eq, beq_eq_false_iff_ne, bne_iff_ne, bne_eq_false_iff_eq, Bool.not_true, Bool.not_false, ne_eq] at hc))
 | (simp (disch := omega) only [thenQ_normal, thenQ_exit, thenQ_ret, blockQ_normal, blockQ_ret, blockQ_exit_same, blockQ_exit_ne]))
        obtain ⟨w6, h6, q6, A6, g6⟩ := ((A5.push hpl (.cells (sgC x) 57)).push hpl (.cells (sgC x) 57)).addW (by_ := 40) (n := acc.length) (x := .slice (some ⟨h5.size + 1, 0, none⟩) 1 1) (l2 := (sgC x)) hpl hfs (by omega) (by rw [lenG, hml]) (by omega) (by omega) (sgC_one _) (all_one_ints (sgC_ints _)) rfl (by simp [srcCells, sgC])
        refine w_mem (v := w6) (h' := h6) rfl (by simpa [d9, sgC] using q6) ?_
        have c6 := cellsAt_of A6.gr
        have hf6 : f ≤ h6.size := by have := A6.kp.1; omega
        repeat' (first
 | refine za ?_ | refine zb ?_ | refine zc ?_ | refine zd ?_ | refine ze ?_ | refine zf ?_ | refine zg ?_ | refine zh ?_ | (refine zi ?_; try refine RgD_plain rfl ?_) | refine w_drawn rfl ?_ | refine zj ?_ | refine zl ?_
 | ((first | apply zs | (apply zt; (focus rfl)) | (apply zu; (focus rfl)) | (apply zv; (focus rfl)) | apply zx | apply zy | apply zB | apply zC | apply zD | apply zE | apply zF); (focus ((conv => lhs; simp (disch := omega) [-env0_get, bound, List.getElem?_cons_zero, List.getElem?_cons_succ, odt, odf, oip, oin, obt, obf, ont, onf, wrapI, owu, ow8, ow32, otd, oe0, oe1, oe2, oe3, oe4, oe5, oe6, otn, ot1, ot2, ot4, d0, d1, d2]); first | done | rfl)); first | apply zk | (apply zn; (focus rfl); try (focus (first | rfl | (simp [d0, d1, d2]; done)))) | (apply zo; (focus rfl)) | apply gv_u | apply gv_tt | apply gv_ff | apply gv_ft | apply gv_tf | (apply gv_split <;> intro hc <;> try simp only [decide_eq_true_eq, decide_eq_false_iff_not, beq_iff_eq, beq_eq_false_iff_ne, bne_iff_ne, bne_eq_false_iff_eq, Bool.not_true, Bool.not_false, ne_eq] at hc))
 | (simp (disch := omega) only [thenQ_normal, thenQ_exit, thenQ_ret, blockQ_normal, blockQ_ret, blockQ_exit_same, blockQ_exit_ne]))
        (apply zW; (focus ((conv => lhs; simp (disch := omega) [-env0_get, bound, List.getElem?_cons_zero, List.getElem?_cons_succ, odt, odf, oip, oin, obt, obf, ont, onf, wrapI, owu, ow8, ow32, otd, oe0, oe1, oe2, oe3, oe4, oe5, oe6, otn, ot1, ot2, ot4, d0, d1, d2]); first | done | rfl)); (focus exact (tblanks_R A6.gr hf hf6 hl o1))); intro v7 h7 q7
        obtain ⟨rfl, p7, k7⟩ := q7
        have A7 := A6.keep hpl p7 k7
        repeat' (first
 | refine za ?_ | refine zb ?_ | refine zc ?_ | refine zd ?_ | refine ze ?_ | refine zf ?_ | refine zg ?_ | refine zh ?_ | (refine zi ?_; try refine RgD_plain rfl ?_) | refine w_drawn rfl ?_ | refine zj ?_ | refine zl ?_
 | ((first | apply zs | (apply zt; (focus rfl)) | (apply zu; (focus rfl)) | (apply zv; (focus rfl)) | apply zx | apply zy | apply zB | apply zC | apply zD | apply zE | apply zF); (focus ((conv => lhs; simp (disch := omega) [-env0_get, bound, List.getElem?_cons_zero, List.getElem?_cons_succ, odt, odf, oip, oin, obt, obf, ont, onf, wrapI, owu, ow8, ow32, otd, oe0, oe1, oe2, oe3, oe4, oe5, oe6, otn, ot1, ot2, ot4, d0, d1, d2]); first | done | rfl)); first | apply zk | (apply zn; (focus rfl); try (focus (first | rfl | (simp [d0, d1, d2]; done)))) | (apply zo; (focus rfl)) | apply gv_u | apply gv_tt | apply gv_ff | apply gv_ft | apply gv_tf | (apply gv_split <;> intro hc <;> try simp only [decide_eq_true_eq, decide_eq_false_iff_not, beq_iff_eq, beq_eq_false_iff_ne, bne_iff_ne, bne_eq_false_iff_eq, Bool.not_true, Bool.not_false, ne_eq] at hc))
 | (simp (disch := omega) only [thenQ_normal, thenQ_exit, thenQ_ret, blockQ_normal, blockQ_ret, blockQ_exit_same, blockQ_exit_ne]))
        rw [ha, hone] at g3'
        rw [g3'] at r1 r2
        have hnx : nxtA true fi lo l i = sk lo l pl := by unfold nxtA; rw [ha, hone]
        rw [hnx] at g1 g2 r1 r2
        have hem : (acc ++ [(x, a)]).isEmpty = false := by simp
        refine ⟨(acc ++ [(x, a)], sk lo l pl, w6, wb4), ⟨by simp [d0], by simp [d1], by simp [d2], by simp, by simp, g2, sk_idem lo l pl, by simp; omega, ?_, ?_, ?_⟩, by simp only; omega⟩
        · simpa [elems_append, elems] using A7
        · simp only [hem]; rw [r1]; simp
        · simp only [hem]; exact r2
      · rw [rowE_bad (nums := true) hlt hs (by rw [ha, hone]; exact he), ha, hone] at r2
        rw [r2] at eR
        rw [show R = ([], pl, er) by rw [eR]; simp [he]]
        repeat' (first
 | refine za ?_ | refine zb ?_ | refine zc ?_ | refine zd ?_ | refine ze ?_ | refine zf ?_ | refine zg ?_ | refine zh ?_ | (refine zi ?_; try refine RgD_plain rfl ?_) | refine w_drawn rfl ?_ | refine zj ?_ | refine zl ?_
 | ((first | apply zs | (apply zt; (focus rfl)) | (apply zu; (focus rfl)) | (apply zv; (focus rfl)) | apply zx | apply zy | apply zB | apply zC | apply zD | apply zE | apply zF); (focus ((conv => lhs; simp (disch := omega) [-env0_get, bound, List.getElem?_cons_zero, List.getElem?_cons_succ, odt, odf, oip, oin, obt, obf, ont, onf, wrapI, owu, ow8, ow32, otd, oe0, oe1, oe2, oe3, oe4, oe5, oe6, otn, ot1, ot2, ot4, d0, d1, d2, d9, c5]); first | done | rfl)); first | apply zk | (apply zn; (focus rfl); try (focus (first | rfl | (simp [d0, d1, d2, d9, c5]; done)))) | (apply zo; (focus rfl)) | apply gv_u | apply gv_tt | apply gv_ff | apply gv_ft | apply gv_tf | (apply gv_split <;> intro hc <;> try simp only [decide_eq_true_eq, decide_eq_false_iff_not, beq_iff_eq, beq_eq_false_iff_ne, bne_iff_ne, bne_eq_false_iff_eq, Bool.not_true, Bool.not_false, ne_eq] at hc))
 | (simp (disch := omega) only [thenQ_normal, thenQ_exit, thenQ_ret, blockQ_normal, blockQ_ret, blockQ_exit_same, blockQ_exit_ne]))
        exact ⟨_, rfl, .inl ⟨rfl, rfl⟩, A5.kp.push _⟩
    -- the sign
    cases fi with
    | true =>
      have h0 := hfl.1 rfl
      have ha' : a = i := by rw [← ha]; rfl
      subst ha'
      repeat' (first
 | refine za ?_ | refine zb ?_ | refine zc ?_ | refine zd ?_ | refine ze ?_ | refine zf ?_ | refine zg ?_ | refine zh ?_ | (refine zi ?_; try refine RgD_plain rfl ?_) | refine w_drawn rfl ?_ | refine zj ?_ | refine zl ?_
 | ((first | apply zs | (apply zt; (focus rfl)) | (apply zu; (focus rfl)) | (apply zv; (focus rfl)) | apply zx | apply zy | apply zB | apply zC | apply zD | apply zE | apply zF); (focus ((conv => lhs; simp (disch := omega) [-env0_get, bound, List.getElem?_cons_zero, List.getElem?_cons_succ, odt, odf, oip, oin, obt, obf, ont, onf, wrapI, owu, ow8, ow32, otd, oe0, oe1, oe2, oe3, oe4, oe5, oe6, otn, ot1, ot2, ot4, e0, e1, e2, e9, e10, c2, h0]); first | done | rfl)); first | apply zk | (apply zn; (focus rfl); try (focus (first | rfl | (simp [e0, e1, e2, e9, e10, c2, h0]; done)))) | (apply zo; (focus rfl)) | apply gv_u | apply gv_tt | apply gv_ff | apply gv_ft | apply gv_tf | (apply gv_split <;> intro hc <;> try simp only [decide_eq_true_eq, decide_eq_false_iff_not, beq_iff_eq, beq_eq_false_iff_ne, bne_iff_ne, bne_eq_false_iff_eq, Bool.not_true, Bool.not_false, ne_eq] at hc))
 | (simp (disch := omega) only [thenQ_normal, thenQ_exit, thenQ_ret, blockQ_normal, blockQ_ret, blockQ_exit_same, blockQ_exit_ne]))
      refine rest (.inl rfl) _ _ ?_ ?_ ?_ ?_ ?_ A <;> simp [e0, e1, e2, e9, e10]
    | false =>
      have hpos := hfl.2 rfl
      have ha' : sk lo l (i + 1) = a := ha
      repeat' (first
 | refine za ?_ | refine zb ?_ | refine zc ?_ | refine zd ?_ | refine ze ?_ | refine zf ?_ | refine zg ?_ | refine zh ?_ | (refine zi ?_; try refine RgD_plain rfl ?_) | refine w_drawn rfl ?_ | refine zj ?_ | refine zl ?_
 | ((first | apply zs | (apply zt; (focus rfl)) | (apply zu; (focus rfl)) | (apply zv; (focus rfl)) | apply zx | apply zy | apply zB | apply zC | apply zD | apply zE | apply zF); (focus ((conv => lhs; simp (disch := omega) [-env0_get, bound, List.getElem?_cons_zero, List.getElem?_cons_succ, odt, odf, oip, oin, obt, obf, ont, onf, wrapI, owu, ow8, ow32, otd, oe0, oe1, oe2, oe3, oe4, oe5, oe6, otn, ot1, ot2, ot4, e0, e1, e2, e9, e10, c2]); first | done | rfl)); first | apply zk | (apply zn; (focus rfl); try (focus (first | rfl | (simp [e0, e1, e2, e9, e10, c2]; done)))) | (apply zo; (focus rfl)) | apply gv_u | apply gv_tt | apply gv_ff | apply gv_ft | apply gv_tf | (apply gv_split <;> intro hc <;> try simp only [decide_eq_true_eq, decide_eq_false_iff_not, beq_iff_eq, beq_eq_false_iff_ne, bne_iff_ne, bne_eq_false_iff_eq, Bool.not_true, Bool.not_false, ne_eq] at hc))
 | (simp (disch := omega) only [thenQ_normal, thenQ_exit, thenQ_ret, blockQ_normal, blockQ_ret, blockQ_exit_same, blockQ_exit_ne]))
      (apply zW; (focus ((conv => lhs; simp (disch := omega) [-env0_get, bound, List.getElem?_cons_zero, List.getElem?_cons_succ, odt, odf, oip, oin, obt, obf, ont, onf, wrapI, owu, ow8, ow32, otd, oe0, oe1, oe2, oe3, oe4, oe5, oe6, otn, ot1, ot2, ot4, e0, e1, e2, e9, e10]); first | done | rfl)); (focus exact (tsign_R (w := [59]) A.gr hf (by omega) hl hi (by simp) (by simp)))); intro v3 h3 q3
      obtain ⟨rfl, p3, k3⟩ := q3
      rw [hid] at p3
      have g3 := lt_of p3
      have c3 := cellsAt_of p3
      have hsz3 := k3.1
      by_cases h59 : isAt l i [59] = true
      · rw [if_pos h59] at p3
        have A3 := A.keep hpl p3 k3
        rw [hid, if_pos h59]
        repeat' (first
 | refine za ?_ | refine zb ?_ | refine zc ?_ | refine zd ?_ | refine ze ?_ | refine zf ?_ | refine zg ?_ | refine zh ?_ | (refine zi ?_; try refine RgD_plain rfl ?_) | refine w_drawn rfl ?_ | refine zj ?_ | refine zl ?_
 | ((first | apply zs | (apply zt; (focus rfl)) | (apply zu; (focus rfl)) | (apply zv; (focus rfl)) | apply zx | apply zy | apply zB | apply zC | apply zD | apply zE | apply zF); (focus ((conv => lhs; simp (disch := omega) [-env0_get, bound, List.getElem?_cons_zero, List.getElem?_cons_succ, odt, odf, oip, oin, obt, obf, ont, onf, wrapI, owu, ow8, ow32, otd, oe0, oe1, oe2, oe3, oe4, oe5, oe6, otn, ot1, ot2, ot4, e0, e1, e2, e9, e10, c3]); first | done | rfl)); first | apply zk | (apply zn; (focus rfl); try (focus (first | rfl | (simp [e0, e1, e2, e9, e10, c3]; done)))) | (apply zo; (focus rfl)) | apply gv_u | apply gv_tt | apply gv_ff | apply gv_ft | apply gv_tf | (apply gv_split <;> intro hc <;> try simp only [decide_eq_true_eq, decide_eq_false_iff_not, beq_iff_eq, beq_eq_false_iff_ne, bne_iff_ne, bne_eq_false_iff_eq, Bool.not_true, Bool.not_false, ne_eq] at hc))
 | (simp (disch := omega) only [thenQ_normal, thenQ_exit, thenQ_ret, blockQ_normal, blockQ_ret, blockQ_exit_same, blockQ_exit_ne]))
        (apply zW; (focus ((conv => lhs; simp (disch := omega) [-env0_get, bound, List.getElem?_cons_zero, List.getElem?_cons_succ, odt, odf, oip, oin, obt, obf, ont, onf, wrapI, owu, ow8, ow32, otd, oe0, oe1, oe2, oe3, oe4, oe5, oe6, otn, ot1, ot2, ot4, e0, e1, e2, e9, e10]); first | done | rfl)); (focus exact (tblanks_R A3.gr hf (by omega) hl (by simp; omega)))); intro v4 h4 q4
        obtain ⟨rfl, p4, k4⟩ := q4
        rw [show i + [(59 : UInt8)].length = i + 1 from rfl, ha'] at p4
        repeat' (first
 | refine za ?_ | refine zb ?_ | refine zc ?_ | refine zd ?_ | refine ze ?_ | refine zf ?_ | refine zg ?_ | refine zh ?_ | (refine zi ?_; try refine RgD_plain rfl ?_) | refine w_drawn rfl ?_ | refine zj ?_ | refine zl ?_
 | ((first | apply zs | (apply zt; (focus rfl)) | (apply zu; (focus rfl)) | (apply zv; (focus rfl)) | apply zx | apply zy | apply zB | apply zC | apply zD | apply zE | apply zF); (focus ((conv => lhs; simp (disch := omega) [-env0_get, bound, List.getElem?_cons_zero, List.getElem?_cons_succ, odt, odf, oip, oin, obt, obf, ont, onf, wrapI, owu, ow8, ow32, otd, oe0, oe1, oe2, oe3, oe4, oe5, oe6, otn, ot1, ot2, ot4, e0, e1, e2, e9, e10]); first | done | rfl)); first | apply zk | (apply zn; (focus rfl); try (focus (first | rfl | (simp [e0, e1, e2, e9, e10]; done)))) | (apply zo; (focus rfl)) | apply gv_u | apply gv_tt | apply gv_ff | apply gv_ft | apply gv_tf | (apply gv_split <;> intro hc <;> try simp only [decide_eq_true_eq, decide_eq_false_iff_not, beq_iff_eq, beq_eq_false_iff_ne, bne_iff_ne, bne_eq_false_iff_eq, Bool.not_true, Bool.not_false, ne_eq] at hc))
 | (simp (disch := omega) only [thenQ_normal, thenQ_exit, thenQ_ret, blockQ_normal, blockQ_ret, blockQ_exit_same, blockQ_exit_ne]))
        refine rest (.inr h59) _ _ ?_ ?_ ?_ ?_ ?_ (A3.keep hpl p4 k4) <;> simp [e0, e1, e2, e9, e10]
      · rw [if_neg h59] at p3
        rw [rowE_semi hlt (by simpa using h59)] at r2
        rw [r2] at eR
        rw [show R = ([], i, 180) by rw [eR]; simp]
        rw [hid, if_neg h59]
        rw [if_neg h59] at c3
        repeat' (first
 | refine za ?_ | refine zb ?_ | refine zc ?_ | refine zd ?_ | refine ze ?_ | refine zf ?_ | refine zg ?_ | refine zh ?_ | (refine zi ?_; try refine RgD_plain rfl ?_) | refine w_drawn rfl ?_ | refine zj ?_ | refine zl ?_
 | ((first | apply zs | (apply zt; (focus rfl)) | (apply zu; (focus rfl)) | (apply zv; (focus rfl)) | apply zx | apply zy | apply zB | apply zC | apply zD | apply zE | apply zF); (focus ((conv => lhs; simp (disch := omega) [-env0_get, bound, List.getElem?_cons_zero, List.getElem?_cons_succ, odt, odf, oip, oin, obt, obf, ont, onf, wrapI, owu, ow8, ow32, otd, oe0, oe1, oe2, oe3, oe4, oe5, oe6, otn, ot1, ot2, ot4, e0, e1, e2, e9, e10, c3]); first | done | rfl)); first | apply zk | (apply zn; (focus rfl); try (focus (first | rfl | (simp [e0, e1, e2, e9, e10, c3]; done)))) | (apply zo; (focus rfl)) | apply gv_u | apply gv_tt | apply gv_ff | apply gv_ft | apply gv_tf | (apply gv_split <;> intro hc <;> try simp only [decide_eq_true_eq, decide_eq_false_iff_not, beq_iff_eq, beq_eq_false_iff_ne, bne_iff_ne, bne_eq_false_iff_eq, Bool.not_true, Bool.not_false, ne_eq] at hc))
 | (simp (disch := omega) only [thenQ_normal, thenQ_exit, thenQ_ret, blockQ_normal, blockQ_ret, blockQ_exit_same, blockQ_exit_ne]))
        exact ⟨_, rfl, .inl ⟨rfl, rfl⟩, A.kp.trans k3⟩
  · -- the end
    have hil : i = l.length := by omega
    rw [rowE_end hlt] at r1 r2
    simp only [List.append_nil] at r1
    rw [r1, r2] at eR
    simp only [ne_eq, not_true_eq_false, if_false] at eR
    simp only [f84l18, f84r6]
    repeat' (first
 | refine za ?_ | refine zb ?_ | refine zc ?_ | refine zd ?_ | refine ze ?_ | refine zf ?_ | refine zg ?_ | refine zh ?_ | (refine zi ?_; try refine RgD_plain rfl ?_) | refine w_drawn rfl ?_ | refine zj ?_ | refine zl ?_
 | ((first | apply zs | (apply zt; (focus rfl)) | (apply zu; (focus rfl)) | (apply zv; (focus rfl)) | apply zx | apply zy | apply zB | apply zC | apply zD | apply zE | apply zF); (focus ((conv => lhs; simp (disch := omega) [-env0_get, bound, List.getElem?_cons_zero, List.getElem?_cons_succ, odt, odf, oip, oin, obt, obf, ont, onf, wrapI, owu, ow8, ow32, otd, oe0, oe1, oe2, oe3, oe4, oe5, oe6, otn, ot1, ot2, ot4, e0, e1, e2, e9, e10, c2]); first | done | rfl)); first | apply zk | (apply zn; (focus rfl); try (focus (first | rfl | (simp [e0, e1, e2, e9, e10, c2]; done)))) | (apply zo; (focus rfl)) | apply gv_u | apply gv_tt | apply gv_ff | apply gv_ft | apply gv_tf | (apply gv_split <;> intro hc <;> try simp only [decide_eq_true_eq, decide_eq_false_iff_not, beq_iff_eq, beq_eq_false_iff_ne, bne_iff_ne, bne_eq_false_iff_eq, Bool.not_true, Bool.not_false, ne_eq] at hc))
 | (simp (disch := omega) only [thenQ_normal, thenQ_exit, thenQ_ret, blockQ_normal, blockQ_ret, blockQ_exit_same, blockQ_exit_ne]))
    rw [← hC2]
    simp only [f84r19, f84r20, f84r21, f84r22, f84r23, f84l24, f84r25]
    repeat' (first
 | refine za ?_ | refine zb ?_ | refine zc ?_ | refine zd ?_ | refine ze ?_ | refine zf ?_ | refine zg ?_ | refine zh ?_ | (refine zi ?_; try refine RgD_plain rfl ?_) | refine w_drawn rfl ?_ | refine zj ?_ | refine zl ?_
 | ((first | apply zs | (apply zt; (focus rfl)) | (apply zu; (focus rfl)) | (apply zv; (focus rfl)) | apply zx | apply zy | apply zB | apply zC | apply zD | apply zE | apply zF); (focus ((conv => lhs; simp (disch := omega) [-env0_get, bound, List.getElem?_cons_zero, List.getElem?_cons_succ, odt, odf, oip, oin, obt, obf, ont, onf, wrapI, owu, ow8, ow32, otd, oe0, oe1, oe2, oe3, oe4, oe5, oe6, otn, ot1, ot2, ot4, e0, e1, e2, e9, e10, c2]); first | done | rfl)); first | apply zk | (apply zn; (focus rfl); try (focus (first | rfl | (simp [e0, e1, e2, e9, e10, c2]; done)))) | (apply zo; (focus rfl)) | apply gv_u | apply gv_tt | apply gv_ff | apply gv_ft | apply gv_tf | (apply gv_split <;> intro hc <;> try simp only [decide_eq_true_eq, decide_eq_false_iff_not, beq_iff_eq, beq_eq_false_iff_ne, bne_iff_ne, bne_eq_false_iff_eq, Bool.not_true, Bool.not_false, ne_eq] at hc))
 | (simp (disch := omega) only [thenQ_normal, thenQ_exit, thenQ_ret, blockQ_normal, blockQ_ret, blockQ_exit_same, blockQ_exit_ne]))
    clear hC2 hcp
    generalize hC4 : (ACode.seq (ACode.regD _ [(0, []), (1, []), (2, []), (3, []), (4, []), (5, []), (6, []), (7, [])]) ACode.ret) = C4
    have fin : (if lo then none else fb none acc) = none → ∀ env : Env, env 0 = ptr p → env 9 = .slice aw acc.length cw → Ok X ⟨f, []⟩ C4 env h2 (EndsR [.tmp 6, .tmp 7, .tmp 8] .plain h fun v h' => ∃ w, v = triR w R.2.1 R.2.2 ∧ Buf f h' 57 5 w (elems sgC R.1) ∧ KeepB h h' (some p)) := by
      intro hn env d0 d9
      rw [hn] at eR
      rw [eR, ← hC4]
      repeat' (first
 | refine za ?_ | refine zb ?_ | refine zc ?_ | refine zd ?_ | refine ze ?_ | refine zf ?_ | refine zg ?_ | refine zh ?_ | (refine zi ?_; try refine RgD_plain rfl ?_) | refine w_drawn rfl ?_ | refine zj ?_ | refine zl ?_
 | ((first | apply zs | (apply zt; (focus rfl)) | (apply zu; (focus rfl)) | (apply zv; (focus rfl)) | apply zx | apply zy | apply zB | apply zC | apply zD | apply zE | apply zF); (focus ((conv => lhs; simp (disch := omega) [-env0_get, bound, List.getElem?_cons_zero, List.getElem?_cons_succ, odt, odf, oip, oin, obt, obf, ont, onf, wrapI, owu, ow8, ow32, otd, oe0, oe1, oe2, oe3, oe4, oe5, oe6, otn, ot1, ot2, ot4, d0, d9, c2, hil]); first | done | rfl)); first | apply zk | (apply zn; (focus rfl); try (focus (first | rfl | (simp [d0, d9, c2, hil]; done)))) | (apply zo; (focus rfl)) | apply gv_u | apply gv_tt | apply gv_ff | apply gv_ft | apply gv_tf | (apply gv_split <;> intro hc <;> try simp only [decide_eq_true_eq, decide_eq_false_iff_not, beq_iff_eq, beq_eq_false_iff_ne, bne_iff_ne, bne_eq_false_iff_eq, Bool.not_true, Bool.not_false, ne_eq] at hc))
 | (simp (disch := omega) only [thenQ_normal, thenQ_exit, thenQ_ret, blockQ_normal, blockQ_ret, blockQ_exit_same, blockQ_exit_ne]))
      exact ⟨_, rfl, A.gw, A.kp⟩
    refine w_loop (A := Nat) (fun j env h' => h2 = h' ∧ env 0 = ptr p ∧ env 2 = .func (.func 86) #[] #[] ∧ env 9 = .slice aw acc.length cw ∧ env 10 = .slice ab acc.length cb ∧ env 14 = .int .i64 (j : Nat) ∧ 1 ≤ j ∧ (j = 1 ∨ j ≤ acc.length) ∧ (lo = false → fb none (acc.take j) = none)) (fun j => acc.length - j) (a0 := 1) ⟨rfl, by simp [e0], by simp [e2], by simp [e9], by simp [e10], by simp, by omega, .inl rfl, fun _ => fb_one acc⟩ ?_
    rintro j env3 h' ⟨hh, d0, d2, d9, d10, d14, hj1, hjn, hfn⟩
    subst hh
    by_cases hjl : j < acc.length
    · obtain ⟨b, o, cs, rfl, hb, hcs, hga⟩ := hrow.all (fun _ => rfl) (by omega)
      obtain ⟨b2, o2, c2', cs2, eb, hb2, hcs2, hga2⟩ := hrowb.get (by omega)
      cases eb
      cases lo with
      | true =>
        repeat' (first
 | refine za ?_ | refine zb ?_ | refine zc ?_ | refine zd ?_ | refine ze ?_ | refine zf ?_ | refine zg ?_ | refine zh ?_ | (refine zi ?_; try refine RgD_plain rfl ?_) | refine w_drawn rfl ?_ | refine zj ?_ | refine zl ?_
 | ((first | apply zs | (apply zt; (focus rfl)) | (apply zu; (focus rfl)) | (apply zv; (focus rfl)) | apply zx | apply zy | apply zB | apply zC | apply zD | apply zE | apply zF); (focus ((conv => lhs; simp (disch := omega) [-env0_get, bound, List.getElem?_cons_zero, List.getElem?_cons_succ, odt, odf, oip, oin, obt, obf, ont, onf, wrapI, owu, ow8, ow32, otd, oe0, oe1, oe2, oe3, oe4, oe5, oe6, otn, ot1, ot2, ot4, d0, d2, d9, d10, d14, c2]); first | done | rfl)); first | apply zk | (apply zn; (focus rfl); try (focus (first | rfl | (simp [d0, d2, d9, d10, d14, c2]; done)))) | (apply zo; (focus rfl)) | apply gv_u | apply gv_tt | apply gv_ff | apply gv_ft | apply gv_tf | (apply gv_split <;> intro hc <;> try simp only [decide_eq_true_eq, decide_eq_false_iff_not, beq_iff_eq, beq_eq_false_iff_ne, bne_iff_ne, bne_eq_false_iff_eq, Bool.not_true, Bool.not_false, ne_eq] at hc))
 | (simp (disch := omega) only [thenQ_normal, thenQ_exit, thenQ_ret, blockQ_normal, blockQ_ret, blockQ_exit_same, blockQ_exit_ne]))
        exact fin rfl _ (by simp [d0]) (by simp [d9])
      | false =>
        obtain ⟨x, hx⟩ : ∃ x, acc[j - 1]? = some x := ⟨_, List.getElem?_eq_getElem (by omega)⟩
        obtain ⟨y, hy⟩ : ∃ y, acc[j]? = some y := ⟨_, List.getElem?_eq_getElem hjl⟩
        have g1 : grab cs (o + (j - 1) * 5) 5 = some (sgC x.1) := hga (j - 1) x.1 (by rw [List.getElem?_map, hx]; rfl) (by omega)
        have g2 : grab cs (o + j * 5) 5 = some (sgC y.1) := hga j y.1 (by rw [List.getElem?_map, hy]; rfl) hjl
        have g3 : cs2[o2 + j]? = some (.int .i64 (y.2 : Nat)) := hga2 j y.2 (by rw [List.getElem?_map, hy]; rfl)
        have hjm : ((j : Int) - 1) = ((j - 1 : Nat) : Int) := by omega
        have hnx := fb_next (by omega) hy hx (hfn rfl)
        cases hless : lessC (y.1.s.a, y.1.s.b) (x.1.s.c, x.1.s.d) with
        | true =>
          rw [hless, if_pos rfl] at hnx
          have hfb : fb none acc = some y.2 := by
            have := fb_pre (acc.take (j + 1)) (acc.drop (j + 1)) none y.2 hnx
            rwa [List.take_append_drop] at this
          rw [show R = ([], y.2, 180) by rw [eR]; simp [hfb]]
          repeat' (first
 | refine za ?_ | refine zb ?_ | refine zc ?_ | refine zd ?_ | refine ze ?_ | refine zf ?_ | refine zg ?_ | refine zh ?_ | (refine zi ?_; try refine RgD_plain rfl ?_) | refine w_drawn rfl ?_ | refine zj ?_ | refine zl ?_
 | ((first | apply zs | (apply zt; (focus rfl)) | (apply zu; (focus rfl)) | (apply zv; (focus rfl)) | apply zw | apply zx | apply zy | apply zB | apply zC | apply zD | apply zE | apply zF); (focus ((conv => lhs; simp (disch := omega) [-env0_get, bound, List.getElem?_cons_zero, List.getElem?_cons_succ, odt, odf, oip, oin, obt, obf, ont, onf, wrapI, owu, ow8, ow32, otd, oe0, oe1, oe2, oe3, oe4, oe5, oe6, otn, ot1, ot2, ot4, d0, d2, d9, d10, d14, c2, hcs, hcs2, g1, g2, g3, hjm, cmpC_dpos, hless, sgC, spV]); first | done | rfl)); first | apply zk | (apply zn; (focus rfl); try (focus (first | rfl | (simp [d0, d2, d9, d10, d14, c2, hcs, hcs2, g1, g2, g3, hjm, cmpC_dpos, hless, sgC, spV]; done)))) | (apply zo; (focus rfl)) | apply gv_u | apply gv_tt | apply gv_ff | apply gv_ft | apply gv_tf | (apply gv_split <;> intro hc <;> try simp only [decide_eq_true_eq, decide_eq_false_iff_not, beq_iff_eq, beq_eq_false_iff_ne, bne_iff_ne, bne_eq_false_iff_eq, Bool.not_true, Bool.not_false, ne_eq] at hc) | exact (ofG_runs (x := x.1)) | exact (ofG_runs (x := y.1)) | exact compare_runs)
 | (simp (disch := omega) only [thenQ_normal, thenQ_exit, thenQ_ret, blockQ_normal, blockQ_ret, blockQ_exit_same, blockQ_exit_ne]))
          exact ⟨_, rfl, .inl ⟨rfl, rfl⟩, A.kp⟩
        | false =>
          rw [hless, if_neg (by simp)] at hnx
          repeat' (first
 | refine za ?_ | refine zb ?_ | refine zc ?_ | refine zd ?_ | refine ze ?_ | refine zf ?_ | refine zg ?_ | refine zh ?_ | (refine zi ?_; try refine RgD_plain rfl ?_) | refine w_drawn rfl ?_ | refine zj ?_ | refine zl ?_
 | ((first | apply zs | (apply zt; (focus rfl)) | (apply zu; (focus rfl)) | (apply zv; (focus rfl)) | apply zw | apply zx | apply zy | apply zB | apply zC | apply zD | apply zE | apply zF); (focus ((conv => lhs; simp (disch := omega) [-env0_get, bound, List.getElem?_cons_zero, List.getElem?_cons_succ, odt, odf, oip, oin, obt, obf, ont, onf, wrapI, owu, ow8, ow32, otd, oe0, oe1, oe2, oe3, oe4, oe5, oe6, otn, ot1, ot2, ot4, d0, d2, d9, d10, d14, c2, hcs, hcs2, g1, g2, g3, hjm, cmpC_dpos, hless, sgC, spV]); first | done | rfl)); first | apply zk | (apply zn; (focus rfl); try (focus (first | rfl | (simp [d0, d2, d9, d10, d14, c2, hcs, hcs2, g1, g2, g3, hjm, cmpC_dpos, hless, sgC, spV]; done)))) | (apply zo; (focus rfl)) | apply gv_u | apply gv_tt | apply gv_ff | apply gv_ft | apply gv_tf | (apply gv_split <;> intro hc <;> try simp only [decide_eq_true_eq, decide_eq_false_iff_not, beq_iff_eq, beq_eq_false_iff_ne, bne_iff_ne, bne_eq_false_iff_eq, Bool.not_true, Bool.not_false, ne_eq] at hc) | exact (ofG_runs (x := x.1)) | exact (ofG_runs (x := y.1)) | exact compare_runs)
 | (simp (disch := omega) only [thenQ_normal, thenQ_exit, thenQ_ret, blockQ_normal, blockQ_ret, blockQ_exit_same, blockQ_exit_ne]))
          exact ⟨j + 1, ⟨by trivial, by simp [d0], by simp [d2], by simp [d9], by simp [d10], by simp, by omega, .inr (by omega), fun _ => hnx⟩, by omega⟩
    · have hn : (if lo then none else fb none acc) = none := by
        cases lo with
        | true => rfl
        | false => 
          have := hfn rfl
          simp only [Bool.false_eq_true, if_false]
          rcases hjn with rfl | q
          · rcases acc with _ | ⟨x, _ | ⟨y, r⟩⟩
            · rfl
            · rfl
            · simp at hjl
          · rwa [List.take_of_length_le (by omega)] at this
      repeat' (first
 | refine za ?_ | refine zb ?_ | refine zc ?_ | refine zd ?_ | refine ze ?_ | refine zf ?_ | refine zg ?_ | refine zh ?_ | (refine zi ?_; try refine RgD_plain rfl ?_) | refine w_drawn rfl ?_ | refine zj ?_ | refine zl ?_
 | ((first | apply zs | (apply zt; (focus rfl)) | (apply zu; (focus rfl)) | (apply zv; (focus rfl)) | apply zx | apply zy | apply zB | apply zC | apply zD | apply zE | apply zF); (focus ((conv => lhs; simp (disch := omega) [-env0_get, bound, List.getElem?_cons_zero, List.getElem?_cons_succ, odt, odf, oip, oin, obt, obf, ont, onf, wrapI, owu, ow8, ow32, otd, oe0, oe1, oe2, oe3, oe4, oe5, oe6, otn, ot1, ot2, ot4, d0, d2, d9, d10, d14, c2]); first | done | rfl)); first | apply zk | (apply zn; (focus rfl); try (focus (first | rfl | (simp [d0, d2, d9, d10, d14, c2]; done)))) | (apply zo; (focus rfl)) | apply gv_u | apply gv_tt | apply gv_ff | apply gv_ft | apply gv_tf | (apply gv_split <;> intro hc <;> try simp only [decide_eq_true_eq, decide_eq_false_iff_not, beq_iff_eq, beq_eq_false_iff_ne, bne_iff_ne, bne_eq_false_iff_eq, Bool.not_true, Bool.not_false, ne_eq] at hc))
 | (simp (disch := omega) only [thenQ_normal, thenQ_exit, thenQ_ret, blockQ_normal, blockQ_ret, blockQ_exit_same, blockQ_exit_ne]))
      exact fin hn _ (by simp [d0]) (by simp [d9])
end Go.Proofs.Ytlgbeekhaoiggaa
end
