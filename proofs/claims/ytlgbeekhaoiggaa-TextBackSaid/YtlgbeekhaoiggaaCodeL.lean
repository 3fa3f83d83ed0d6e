import Derived.Test.YtlgbeekhaoiggaaCodeK
set_option linter.all false
section
namespace Go.Proofs.Ytlgbeekhaoiggaa
open Go.AM
set_option maxHeartbeats 4000000
variable {f : Nat} {h : Heap}
structure BS (h0 h : Heap) (p : Nat) (ds : List UInt8) : Prop where
  c : ∃ a w, h[p]? = some (.cells [a, w] 95) ∧ (a = .pointer none ∨ a = ptr p) ∧ Buf h0.size h 5 1 w (ubs ds) ∧ blk w ≠ some p ∧ (ds = [] → w = .slice none 0 0)
  lp : h0.size ≤ p
  kp : KeepB h0 h none
theorem copy_ext {h0 : Heap} {p : Nat} {a w : Value} (hc : h[p]? = some (.cells [a, w] 95)) (ha : a = .pointer none ∨ a = ptr p) (hp : h0.size ≤ p) :
    ∃ h', Runs X ⟨h0.size, []⟩ 116 [ptr p] h (.tuple #[]) h' ∧ h'[p]? = some (.cells [ptr p, w] 95) ∧ KeepB h h' (some p) := by
  have hx : X.ext 116 = some (sCopy 95) := rfl
  have hlt := lt_of hc
  have hnp : ¬ p < h0.size := by omega
  rcases ha with rfl | rfl
  · refine ⟨h.setIfInBounds p (.cells [ptr p, w] 95), Runs_ext hx ?_, by rw [Array.getElem?_setIfInBounds, if_pos rfl, if_pos hlt], (KeepB.refl h (some p)).set _ (.inr rfl)⟩
    simp [sCopy, hc, hnp, wr_def hc, hp, putAt]
  · refine ⟨h, Runs_ext hx ?_, hc, .refl _ _⟩
    simp [sCopy, hc, hnp]
theorem BS.more {h0 h h' : Heap} {p : Nat} {ds : List UInt8} (S : BS h0 h p ds) (k : KeepB h h' none) : BS h0 h' p ds := by
  obtain ⟨⟨a, w, c, ha, gb, bw, hz⟩, lp, kp⟩ := S
  exact ⟨⟨a, w, by rw [k.2 p (lt_of c) (by simp)]; exact c, ha, gb.keepB k (.inl rfl), bw, hz⟩, lp, kp.trans k⟩
theorem bld_app {h0 : Heap} {p : Nat} {ds s : List UInt8} {w x : Value} (c1 : h[p]? = some (.cells [ptr p, w] 95)) (gb : Buf h0.size h 5 1 w (ubs ds)) (bw : blk w ≠ some p) (lp : h0.size ≤ p) (kp : KeepB h0 h none)
    (hx : srcCells h 1 x = some (s.length, ubs s)) (hs : 0 < s.length) (hl : ds.length + s.length ≤ 2000000) :
    ∃ a n h2, aAppend ⟨h0.size, []⟩ h 5 1 1 w x = some (.slice a n n, h2) ∧ h2[p]? = some (.cells [ptr p, w] 95) ∧ BS h0 (h2.setIfInBounds p (.cells [ptr p, .slice a n n] 95)) p (ds ++ s) := by
  have hsz := kp.1
  have s1 := lt_of c1
  obtain ⟨w2, h2, q1, q2, q3, q4⟩ := append_buf (f := h0.size) (by_ := 1) (n := ds.length) (m := s.length) (x := x) (l2 := ubs s) (by omega : 0 < 1) (by omega) gb hx hs (by simp) (ubs_one _) (ubs_one _) (by omega) (by omega) (by simp)
  obtain ⟨a, n, rfl⟩ := q2.form
  have k2 := q3.1
  have d1 : h2[p]? = some (.cells [ptr p, w] 95) := by rw [q3.2 p s1 (fun e => bw e)]; exact c1
  have s2 := lt_of d1
  have hb4 : blk (.slice a n n) ≠ some p := fun e => by rw [q4] at e; simp at e; omega
  refine ⟨a, n, h2, q1, d1, ⟨_, _, by rw [Array.getElem?_setIfInBounds, if_pos rfl, if_pos s2], .inr rfl, ?_, hb4, fun e => by have := congrArg List.length e; simp only [List.length_append, List.length_nil] at this; omega⟩, lp, ?_⟩
  · rw [ubs_app]; exact q2.keepB ((KeepB.refl h2 (some p)).set _ (.inr rfl)) (.inr hb4)
  · have hbw : ∀ b, blk w = some b → h0.size ≤ b := by
      intro b hb
      rcases gb with ⟨rfl, _⟩ | ⟨b', n', rfl, _, hc, g⟩
      · simp [blk] at hb
      · simp [blk] at hb; subst hb; exact g
    exact (kp.trans' q3 hbw).trans' ((KeepB.refl h2 (some p)).set _ (.inr rfl)) (fun b hb => by cases hb; exact lp)
theorem wbyte_R {h0 : Heap} {p : Nat} {ds : List UInt8} (S : BS h0 h p ds) (hl : ds.length ≤ 1000000) :
    callR X ⟨h0.size, []⟩ 87 [ptr p, .int .u8 59] h fun v h' => BS h0 h' p (ds ++ [59]) := by
  obtain ⟨⟨a, w, c, ha, gb, bw, hz⟩, lp, kp⟩ := S
  obtain ⟨h1, hr, c1, k1⟩ := copy_ext c ha lp
  refine callR_of rfl f87_is ?_
  simp only [f87r0, f87r1, f87r2, f87r3, f87b]
  have g1 := cellsAt_of c1
  have s1 := lt_of c1
  have kp1 := kp.trans' k1 (fun b hb => by cases hb; exact lp)
  obtain ⟨a2, n2, h2, q1, d1, S2⟩ := bld_app (s := [59]) (x := .slice (some ⟨h1.size, 0, none⟩) 1 1) (by rw [Array.getElem?_push, if_neg (by omega)]; exact c1) ((gb.keepB k1 (.inr bw)).keepB ((KeepB.refl h1 none).push (.cells [.int .u8 59] 5)) (.inl rfl)) bw lp (kp1.push _) (by simp [srcCells, ubs]) (by simp) (by simp; omega)
  repeat' (first
 | refine za ?_ | refine zb ?_ | refine zc ?_ | refine zd ?_ | refine ze ?_ | refine zf ?_ | refine zg ?_ | refine zh ?_ | (refine zi ?_; try refine RgD_plain rfl ?_) | refine w_drawn rfl ?_ | refine zj ?_ | refine zl ?_
 | ((first | apply zs | (apply zt; (focus rfl)) | (apply zu; (focus rfl)) | (apply zv; (focus rfl)) | apply zw | apply zx | apply zy | apply zB | apply zC | apply zD | apply zE | apply zF); (focus ((conv => lhs; simp (disch := omega) [-env0_get, bound, List.getElem?_cons_zero, List.getElem?_cons_succ, odt, odf, oip, oin, obt, obf, ont, onf, wrapI, owu, ow8, ow32, otd, oe0, oe1, oe2, oe3, oe4, oe5, oe6, otn, ot1, ot2, ot4, g1]); first | done | rfl)); first | apply zk | (apply zn; (focus rfl); try (focus (first | rfl | (simp [g1]; done)))) | (apply zo; (focus rfl)) | apply gv_u | apply gv_tt | apply gv_ff | apply gv_ft | apply gv_tf | (apply gv_split <;> intro hc <;> try simp only [decide_eq_true_eq, decide_eq_false_iff_not, beq_iff_eq, beq_eq_false_iff_ne, bne_iff_ne, bne_eq_false_iff_eq, Bool.not_true, Bool.not_false, ne_eq] at hc) | exact hr)
 | (simp (disch := omega) only [thenQ_normal, thenQ_exit, thenQ_ret, blockQ_normal, blockQ_ret, blockQ_exit_same, blockQ_exit_ne]))
  refine w_mem (v := .slice a2 n2 n2) (h' := h2) rfl (by simpa using q1) ?_
  repeat' (first
 | refine za ?_ | refine zb ?_ | refine zc ?_ | refine zd ?_ | refine ze ?_ | refine zf ?_ | refine zg ?_ | refine zh ?_ | (refine zi ?_; try refine RgD_plain rfl ?_) | refine w_drawn rfl ?_ | refine zj ?_ | refine zl ?_
 | ((first | apply zs | (apply zt; (focus rfl)) | (apply zu; (focus rfl)) | (apply zv; (focus rfl)) | apply zx | apply zy | apply zB | apply zC | apply zD | apply zE | apply zF); (focus ((conv => lhs; simp (disch := omega) [-env0_get, bound, List.getElem?_cons_zero, List.getElem?_cons_succ, odt, odf, oip, oin, obt, obf, ont, onf, wrapI, owu, ow8, ow32, otd, oe0, oe1, oe2, oe3, oe4, oe5, oe6, otn, ot1, ot2, ot4, wr_def d1, lp]); first | done | rfl)); first | apply zk | (apply zn; (focus rfl); try (focus (first | rfl | (simp [wr_def d1, lp]; done)))) | (apply zo; (focus rfl)) | apply gv_u | apply gv_tt | apply gv_ff | apply gv_ft | apply gv_tf | (apply gv_split <;> intro hc <;> try simp only [decide_eq_true_eq, decide_eq_false_iff_not, beq_iff_eq, beq_eq_false_iff_ne, bne_iff_ne, bne_eq_false_iff_eq, Bool.not_true, Bool.not_false, ne_eq] at hc))
 | (simp (disch := omega) only [thenQ_normal, thenQ_exit, thenQ_ret, blockQ_normal, blockQ_ret, blockQ_exit_same, blockQ_exit_ne]))
  simpa [putAt] using S2
theorem wstr_R {h0 : Heap} {p : Nat} {ds s : List UInt8} (S : BS h0 h p ds) (hl : ds.length ≤ 1000000) (hs : 0 < s.length) (hs2 : s.length ≤ 1000000) :
    callR X ⟨h0.size, []⟩ 88 [ptr p, sv s] h fun v h' => BS h0 h' p (ds ++ s) := by
  obtain ⟨⟨a, w, c, ha, gb, bw, hz⟩, lp, kp⟩ := S
  obtain ⟨h1, hr, c1, k1⟩ := copy_ext c ha lp
  refine callR_of rfl f88_is ?_
  simp only [f88r0, f88r1, f88r2, f88r3, f88b]
  have g1 := cellsAt_of c1
  have s1 := lt_of c1
  have kp1 := kp.trans' k1 (fun b hb => by cases hb; exact lp)
  obtain ⟨a2, n2, h2, q1, d1, S2⟩ := bld_app (s := s) (x := sv s) c1 (gb.keepB k1 (.inr bw)) bw lp kp1 (by simp [srcCells, ubs]) hs (by omega)
  repeat' (first
 | refine za ?_ | refine zb ?_ | refine zc ?_ | refine zd ?_ | refine ze ?_ | refine zf ?_ | refine zg ?_ | refine zh ?_ | (refine zi ?_; try refine RgD_plain rfl ?_) | refine w_drawn rfl ?_ | refine zj ?_ | refine zl ?_
 | ((first | apply zs | (apply zt; (focus rfl)) | (apply zu; (focus rfl)) | (apply zv; (focus rfl)) | apply zw | apply zx | apply zy | apply zB | apply zC | apply zD | apply zE | apply zF); (focus ((conv => lhs; simp (disch := omega) [-env0_get, bound, List.getElem?_cons_zero, List.getElem?_cons_succ, odt, odf, oip, oin, obt, obf, ont, onf, wrapI, owu, ow8, ow32, otd, oe0, oe1, oe2, oe3, oe4, oe5, oe6, otn, ot1, ot2, ot4, g1]); first | done | rfl)); first | apply zk | (apply zn; (focus rfl); try (focus (first | rfl | (simp [g1]; done)))) | (apply zo; (focus rfl)) | apply gv_u | apply gv_tt | apply gv_ff | apply gv_ft | apply gv_tf | (apply gv_split <;> intro hc <;> try simp only [decide_eq_true_eq, decide_eq_false_iff_not, beq_iff_eq, beq_eq_false_iff_ne, bne_iff_ne, bne_eq_false_iff_eq, Bool.not_true, Bool.not_false, ne_eq] at hc) | exact hr)
 | (simp (disch := omega) only [thenQ_normal, thenQ_exit, thenQ_ret, blockQ_normal, blockQ_ret, blockQ_exit_same, blockQ_exit_ne]))
  refine w_mem (v := .slice a2 n2 n2) (h' := h2) rfl (by simpa using q1) ?_
  repeat' (first
 | refine za ?_ | refine zb ?_ | refine zc ?_ | refine zd ?_ | refine ze ?_ | refine zf ?_ | refine zg ?_ | refine zh ?_ | (refine zi ?_; try refine RgD_plain rfl ?_) | refine w_drawn rfl ?_ | refine zj ?_ | refine zl ?_
 | ((first | apply zs | (apply zt; (focus rfl)) | (apply zu; (focus rfl)) | (apply zv; (focus rfl)) | apply zx | apply zy | apply zB | apply zC | apply zD | apply zE | apply zF); (focus ((conv => lhs; simp (disch := omega) [-env0_get, bound, List.getElem?_cons_zero, List.getElem?_cons_succ, odt, odf, oip, oin, obt, obf, ont, onf, wrapI, owu, ow8, ow32, otd, oe0, oe1, oe2, oe3, oe4, oe5, oe6, otn, ot1, ot2, ot4, wr_def d1, lp]); first | done | rfl)); first | apply zk | (apply zn; (focus rfl); try (focus (first | rfl | (simp [wr_def d1, lp]; done)))) | (apply zo; (focus rfl)) | apply gv_u | apply gv_tt | apply gv_ff | apply gv_ft | apply gv_tf | (apply gv_split <;> intro hc <;> try simp only [decide_eq_true_eq, decide_eq_false_iff_not, beq_iff_eq, beq_eq_false_iff_ne, bne_iff_ne, bne_eq_false_iff_eq, Bool.not_true, Bool.not_false, ne_eq] at hc))
 | (simp (disch := omega) only [thenQ_normal, thenQ_exit, thenQ_ret, blockQ_normal, blockQ_ret, blockQ_exit_same, blockQ_exit_ne]))
  simpa [putAt] using S2
theorem bstr_R {h0 : Heap} {p : Nat} {ds : List UInt8} (S : BS h0 h p ds) (hl : ds.length ≤ 1000000) :
    ∃ h', Runs X ⟨h0.size, []⟩ 89 [ptr p] h (sv ds) h' := by
  have hx : X.ext 89 = some (sString 95 5) := rfl
  obtain ⟨⟨a, w, c, ha, gb, bw, hz⟩, lp, kp⟩ := S
  have hnp : ¬ p < h0.size := by omega
  rcases gb with ⟨rfl, e⟩ | ⟨b', n', rfl, e, hc, g⟩
  · have : ds = [] := by cases ds <;> simp [ubs] at e ⊢
    subst this
    exact ⟨h, Runs_ext hx (by simp [sString, c, hnp]; rfl)⟩
  · have hn : n' = ds.length := by simpa using e
    subst hn
    by_cases h0' : ds.length = 0
    · have := hz (List.length_eq_zero_iff.1 h0'); cases this
    · have hng : ¬ b' < h0.size := by omega
      refine ⟨h.setIfInBounds b' .dead, Runs_ext hx ?_⟩
      have hb : (grab (ubs ds) 0 ds.length).bind bytesOf = some ds := by simp [grab]; rw [List.take_of_length_le (by simp)]; exact ubs_bytes ds
      have h9 : ¬ ds.length > 140737488355328 := by omega
      simp only [sString, c, hc]
      simp [hnp, hng, h0', hb, h9]
def joinT : List (List UInt8) → List UInt8
  | [] => []
  | [x] => x
  | x :: y :: r => x ++ 59 :: joinT (y :: r)
def rowT (ts : List (List UInt8)) : List UInt8 := if [] ∈ ts then [] else joinT ts
theorem joinT_app : ∀ (ts : List (List UInt8)) (t : List UInt8), joinT (ts ++ [t]) = if ts = [] then t else joinT ts ++ 59 :: t
  | [], t => rfl
  | [x], t => rfl
  | x :: y :: r, t => by
    have := joinT_app (y :: r) t
    simp only [List.cons_append, joinT] at this ⊢
    rw [this]; simp
theorem joinT_len : ∀ (ts : List (List UInt8)), (∀ t ∈ ts, t.length ≤ 70) → (joinT ts).length ≤ 71 * ts.length
  | [], _ => by simp [joinT]
  | [x], hx => by have := hx x (by simp); simp [joinT]; omega
  | x :: y :: r, hx => by
    have := joinT_len (y :: r) fun t ht => hx t (by simp at ht ⊢; exact .inr ht)
    have := hx x (by simp)
    simp only [joinT, List.length_append, List.length_cons] at *; omega
end Go.Proofs.Ytlgbeekhaoiggaa
end

section
namespace Go.Proofs.Ytlgbeekhaoiggaa
open Go.AM
set_option maxHeartbeats 4000000
variable {f : Nat} {h : Heap}
theorem rowG_R {v : Value} {xs : List Sg} (hr : GRow h v xs) (hl : xs.length ≤ 10000) (hok : ∀ x ∈ xs, okG x) : Runs X ⟨f, []⟩ 52 [v, .func (.func 53) #[] #[]] h (sv (rowT (xs.map segT))) h := by
  refine Runs_of rfl f52_is ?_
  have hsz0 := hr.len
  obtain ⟨aw, cw, rfl⟩ := hr.form
  simp only [f52b, f52r0, f52r1, f52r2, f52r13]
  repeat' (first
 | refine za ?_ | refine zb ?_ | refine zc ?_ | refine zd ?_ | refine ze ?_ | refine zf ?_ | refine zg ?_ | refine zh ?_ | (refine zi ?_; try refine RgD_plain rfl ?_) | refine w_drawn rfl ?_ | refine zj ?_ | refine zl ?_
 | ((first | apply zs | (apply zt; (focus rfl)) | (apply zu; (focus rfl)) | (apply zv; (focus rfl)) | apply zx | apply zy | apply zB | apply zC | apply zD | apply zE | apply zF); (focus ((conv => lhs; simp (disch := omega) [-env0_get, bound, List.getElem?_cons_zero, List.getElem?_cons_succ, odt, odf, oip, oin, obt, obf, ont, onf, wrapI, owu, ow8, ow32, otd, oe0, oe1, oe2, oe3, oe4, oe5, oe6, otn, ot1, ot2, ot4]); first | done | rfl)); first | apply zk | (apply zn; (focus rfl); try (focus (first | rfl | (simp; done)))) | (apply zo; (focus rfl)) | apply gv_u | apply gv_tt | apply gv_ff | apply gv_ft | apply gv_tf | (apply gv_split <;> intro hc <;> try simp only [decide_eq_true_eq, decide_eq_false_iff_not, beq_iff_eq, beq_eq_false_iff_ne, bne_iff_ne, bne_eq_false_iff_eq, Bool.not_true, Bool.not_false, ne_eq] at hc))
 | (simp (disch := omega) only [thenQ_normal, thenQ_exit, thenQ_ret, blockQ_normal, blockQ_ret, blockQ_exit_same, blockQ_exit_ne]))
  have B0 : BS h (h.push (.cells [.pointer none, .slice none 0 0] 95)) h.size [] := ⟨⟨_, _, by simp, .inl rfl, .inl ⟨rfl, rfl⟩, by simp [blk], fun _ => rfl⟩, Nat.le_refl _, (KeepB.refl h none).push _⟩
  refine w_loop (A := Nat) (fun j env h' => env 1 = .func (.func 53) #[] #[] ∧ env 5 = ptr h.size ∧ env 9 = .slice aw xs.length cw ∧ env 10 = .int .i64 (xs.length : Nat) ∧ env 11 = .int .i64 (j : Nat) ∧ j ≤ xs.length ∧ BS h h' h.size (joinT ((xs.take j).map segT)) ∧ [] ∉ (xs.take j).map segT) (fun j => xs.length - j) (a0 := 0) ⟨by simp, by simp, by simp, by simp, by simp, by omega, B0, by simp⟩ ?_
  clear B0
  rintro j env h' ⟨e1, e5, e9, e10, e11, hj, B, hni⟩
  have hsz := B.kp.1
  have hjl := joinT_len ((xs.take j).map segT) (by
    intro t ht
    obtain ⟨x, hx, rfl⟩ := List.mem_map.1 ht
    have := segT_len (hok x (List.mem_of_mem_take hx)); omega)
  rw [List.length_map, List.length_take, Nat.min_eq_left hj] at hjl
  simp only [f52l12, f52r3, f52r4, f52r5, f52r6, f52r7, f52r8, f52r9, f52r10, f52r11]
  by_cases hlt : j < xs.length
  · obtain ⟨x, hx⟩ : ∃ x, xs[j]? = some x := ⟨_, List.getElem?_eq_getElem hlt⟩
    have hxo := hok x (List.mem_of_getElem? hx)
    obtain ⟨b, o, cs, rfl, hb, hcs, hga⟩ := (hr.keepB B.kp (.inl rfl)).all sgC_len (by omega)
    have hg := hga j x hx hlt
    have htk : (xs.take (j + 1)).map segT = (xs.take j).map segT ++ [segT x] := by rw [List.take_add_one, hx]; simp
    have c1 := fun h' => seg1_runs (f := h.size) (h := h') hxo
    cases ht : segT x with
    | nil =>
      have e : rowT (xs.map segT) = [] := if_pos (by rw [← ht]; exact List.mem_map_of_mem (List.mem_of_getElem? hx))
      rw [e]
      simp only [ht] at c1
      repeat' (first
 | refine za ?_ | refine zb ?_ | refine zc ?_ | refine zd ?_ | refine ze ?_ | refine zf ?_ | refine zg ?_ | refine zh ?_ | (refine zi ?_; try refine RgD_plain rfl ?_) | refine w_drawn rfl ?_ | refine zj ?_ | refine zl ?_
 | ((first | apply zs | (apply zt; (focus rfl)) | (apply zu; (focus rfl)) | (apply zv; (focus rfl)) | apply zw | apply zx | apply zy | apply zB | apply zC | apply zD | apply zE | apply zF); (focus ((conv => lhs; simp (disch := omega) [-env0_get, bound, List.getElem?_cons_zero, List.getElem?_cons_succ, odt, odf, oip, oin, obt, obf, ont, onf, wrapI, owu, ow8, ow32, otd, oe0, oe1, oe2, oe3, oe4, oe5, oe6, otn, ot1, ot2, ot4, e1, e5, e9, e10, e11, hcs, hg, sgC, sgV]); first | done | rfl)); first | apply zk | (apply zn; (focus rfl); try (focus (first | rfl | (simp [e1, e5, e9, e10, e11, hcs, hg, sgC, sgV]; done)))) | (apply zo; (focus rfl)) | apply gv_u | apply gv_tt | apply gv_ff | apply gv_ft | apply gv_tf | (apply gv_split <;> intro hc <;> try simp only [decide_eq_true_eq, decide_eq_false_iff_not, beq_iff_eq, beq_eq_false_iff_ne, bne_iff_ne, bne_eq_false_iff_eq, Bool.not_true, Bool.not_false, ne_eq] at hc) | exact (c1 _))
 | (simp (disch := omega) only [thenQ_normal, thenQ_exit, thenQ_ret, blockQ_normal, blockQ_ret, blockQ_exit_same, blockQ_exit_ne]))
    | cons t0 tr =>
      simp only [ht] at c1
      have hxl := segT_len hxo
      rw [ht, List.length_cons] at hxl
      have B2 : BS h (h'.push (.cells (sgC x) 57)) h.size (joinT ((xs.take j).map segT)) := B.more ((KeepB.refl h' none).push _)
      have hni2 : [] ∉ (xs.take (j + 1)).map segT := by rw [htk, List.mem_append, ht]; simp at hni ⊢; exact hni
      have hjo := joinT_app ((xs.take j).map segT) (t0 :: tr)
      by_cases hj0 : j = 0
      · subst hj0
        have hg0 := hg
        rw [Nat.zero_mul, Nat.add_zero] at hg0
        repeat' (first
 | refine za ?_ | refine zb ?_ | refine zc ?_ | refine zd ?_ | refine ze ?_ | refine zf ?_ | refine zg ?_ | refine zh ?_ | (refine zi ?_; try refine RgD_plain rfl ?_) | refine w_drawn rfl ?_ | refine zj ?_ | refine zl ?_
 | ((first | apply zs | (apply zt; (focus rfl)) | (apply zu; (focus rfl)) | (apply zv; (focus rfl)) | apply zw | apply zx | apply zy | apply zB | apply zC | apply zD | apply zE | apply zF); (focus ((conv => lhs; simp (disch := omega) [-env0_get, bound, List.getElem?_cons_zero, List.getElem?_cons_succ, odt, odf, oip, oin, obt, obf, ont, onf, wrapI, owu, ow8, ow32, otd, oe0, oe1, oe2, oe3, oe4, oe5, oe6, otn, ot1, ot2, ot4, e1, e5, e9, e10, e11, hcs, hg0, sgC, sgV]); first | done | rfl)); first | apply zk | (apply zn; (focus rfl); try (focus (first | rfl | (simp [e1, e5, e9, e10, e11, hcs, hg0, sgC, sgV]; done)))) | (apply zo; (focus rfl)) | apply gv_u | apply gv_tt | apply gv_ff | apply gv_ft | apply gv_tf | (apply gv_split <;> intro hc <;> try simp only [decide_eq_true_eq, decide_eq_false_iff_not, beq_iff_eq, beq_eq_false_iff_ne, bne_iff_ne, bne_eq_false_iff_eq, Bool.not_true, Bool.not_false, ne_eq] at hc) | exact (c1 _))
 | (simp (disch := omega) only [thenQ_normal, thenQ_exit, thenQ_ret, blockQ_normal, blockQ_ret, blockQ_exit_same, blockQ_exit_ne]))
        (apply zW; (focus ((conv => lhs; simp (disch := omega) [-env0_get, bound, List.getElem?_cons_zero, List.getElem?_cons_succ, odt, odf, oip, oin, obt, obf, ont, onf, wrapI, owu, ow8, ow32, otd, oe0, oe1, oe2, oe3, oe4, oe5, oe6, otn, ot1, ot2, ot4, e1, e5, e9, e10, e11]); first | done | rfl)); (focus exact (wstr_R (s := t0 :: tr) B2 (by omega) (by simp) (by simp; omega)))); intro v2 h2 q2
        repeat' (first
 | refine za ?_ | refine zb ?_ | refine zc ?_ | refine zd ?_ | refine ze ?_ | refine zf ?_ | refine zg ?_ | refine zh ?_ | (refine zi ?_; try refine RgD_plain rfl ?_) | refine w_drawn rfl ?_ | refine zj ?_ | refine zl ?_
 | ((first | apply zs | (apply zt; (focus rfl)) | (apply zu; (focus rfl)) | (apply zv; (focus rfl)) | apply zx | apply zy | apply zB | apply zC | apply zD | apply zE | apply zF); (focus ((conv => lhs; simp (disch := omega) [-env0_get, bound, List.getElem?_cons_zero, List.getElem?_cons_succ, odt, odf, oip, oin, obt, obf, ont, onf, wrapI, owu, ow8, ow32, otd, oe0, oe1, oe2, oe3, oe4, oe5, oe6, otn, ot1, ot2, ot4, e1, e5, e9, e10, e11]); first | done | rfl)); first | apply zk | (apply zn; (focus rfl); try (focus (first | rfl | (simp [e1, e5, e9, e10, e11]; done)))) | (apply zo; (focus rfl)) | apply gv_u | apply gv_tt | apply gv_ff | apply gv_ft | apply gv_tf | (apply gv_split <;> intro hc <;> try simp only [decide_eq_true_eq, decide_eq_false_iff_not, beq_iff_eq, beq_eq_false_iff_ne, bne_iff_ne, bne_eq_false_iff_eq, Bool.not_true, Bool.not_false, ne_eq] at hc))
 | (simp (disch := omega) only [thenQ_normal, thenQ_exit, thenQ_ret, blockQ_normal, blockQ_ret, blockQ_exit_same, blockQ_exit_ne]))
        refine ⟨1, ⟨by simp [e1], by simp [e5], by simp [e9], by simp [e10], by simp, by omega, ?_, hni2⟩, by omega⟩
        rw [htk, ht, hjo]
        simpa [joinT] using q2
      · repeat' (first
 | refine za ?_ | refine zb ?_ | refine zc ?_ | refine zd ?_ | refine ze ?_ | refine zf ?_ | refine zg ?_ | refine zh ?_ | (refine zi ?_; try refine RgD_plain rfl ?_) | refine w_drawn rfl ?_ | refine zj ?_ | refine zl ?_
 | ((first | apply zs | (apply zt; (focus rfl)) | (apply zu; (focus rfl)) | (apply zv; (focus rfl)) | apply zw | apply zx | apply zy | apply zB | apply zC | apply zD | apply zE | apply zF); (focus ((conv => lhs; simp (disch := omega) [-env0_get, bound, List.getElem?_cons_zero, List.getElem?_cons_succ, odt, odf, oip, oin, obt, obf, ont, onf, wrapI, owu, ow8, ow32, otd, oe0, oe1, oe2, oe3, oe4, oe5, oe6, otn, ot1, ot2, ot4, e1, e5, e9, e10, e11, hcs, hg, sgC, sgV]); first | done | rfl)); first | apply zk | (apply zn; (focus rfl); try (focus (first | rfl | (simp [e1, e5, e9, e10, e11, hcs, hg, sgC, sgV]; done)))) | (apply zo; (focus rfl)) | apply gv_u | apply gv_tt | apply gv_ff | apply gv_ft | apply gv_tf | (apply gv_split <;> intro hc <;> try simp only [decide_eq_true_eq, decide_eq_false_iff_not, beq_iff_eq, beq_eq_false_iff_ne, bne_iff_ne, bne_eq_false_iff_eq, Bool.not_true, Bool.not_false, ne_eq] at hc) | exact (c1 _))
 | (simp (disch := omega) only [thenQ_normal, thenQ_exit, thenQ_ret, blockQ_normal, blockQ_ret, blockQ_exit_same, blockQ_exit_ne]))
        (apply zW; (focus ((conv => lhs; simp (disch := omega) [-env0_get, bound, List.getElem?_cons_zero, List.getElem?_cons_succ, odt, odf, oip, oin, obt, obf, ont, onf, wrapI, owu, ow8, ow32, otd, oe0, oe1, oe2, oe3, oe4, oe5, oe6, otn, ot1, ot2, ot4, e1, e5, e9, e10, e11]); first | done | rfl)); (focus exact (wbyte_R B2 (by omega)))); intro v1 h1 q1
        repeat' (first
 | refine za ?_ | refine zb ?_ | refine zc ?_ | refine zd ?_ | refine ze ?_ | refine zf ?_ | refine zg ?_ | refine zh ?_ | (refine zi ?_; try refine RgD_plain rfl ?_) | refine w_drawn rfl ?_ | refine zj ?_ | refine zl ?_
 | ((first | apply zs | (apply zt; (focus rfl)) | (apply zu; (focus rfl)) | (apply zv; (focus rfl)) | apply zx | apply zy | apply zB | apply zC | apply zD | apply zE | apply zF); (focus ((conv => lhs; simp (disch := omega) [-env0_get, bound, List.getElem?_cons_zero, List.getElem?_cons_succ, odt, odf, oip, oin, obt, obf, ont, onf, wrapI, owu, ow8, ow32, otd, oe0, oe1, oe2, oe3, oe4, oe5, oe6, otn, ot1, ot2, ot4, e1, e5, e9, e10, e11]); first | done | rfl)); first | apply zk | (apply zn; (focus rfl); try (focus (first | rfl | (simp [e1, e5, e9, e10, e11]; done)))) | (apply zo; (focus rfl)) | apply gv_u | apply gv_tt | apply gv_ff | apply gv_ft | apply gv_tf | (apply gv_split <;> intro hc <;> try simp only [decide_eq_true_eq, decide_eq_false_iff_not, beq_iff_eq, beq_eq_false_iff_ne, bne_iff_ne, bne_eq_false_iff_eq, Bool.not_true, Bool.not_false, ne_eq] at hc))
 | (simp (disch := omega) only [thenQ_normal, thenQ_exit, thenQ_ret, blockQ_normal, blockQ_ret, blockQ_exit_same, blockQ_exit_ne]))
        (apply zW; (focus ((conv => lhs; simp (disch := omega) [-env0_get, bound, List.getElem?_cons_zero, List.getElem?_cons_succ, odt, odf, oip, oin, obt, obf, ont, onf, wrapI, owu, ow8, ow32, otd, oe0, oe1, oe2, oe3, oe4, oe5, oe6, otn, ot1, ot2, ot4, e1, e5, e9, e10, e11]); first | done | rfl)); (focus exact (wstr_R (s := t0 :: tr) q1 (by rw [List.length_append]; simp only [List.length_cons, List.length_nil]; omega) (by simp) (by simp; omega)))); intro v2 h2 q2
        repeat' (first
 | refine za ?_ | refine zb ?_ | refine zc ?_ | refine zd ?_ | refine ze ?_ | refine zf ?_ | refine zg ?_ | refine zh ?_ | (refine zi ?_; try refine RgD_plain rfl ?_) | refine w_drawn rfl ?_ | refine zj ?_ | refine zl ?_
 | ((first | apply zs | (apply zt; (focus rfl)) | (apply zu; (focus rfl)) | (apply zv; (focus rfl)) | apply zx | apply zy | apply zB | apply zC | apply zD | apply zE | apply zF); (focus ((conv => lhs; simp (disch := omega) [-env0_get, bound, List.getElem?_cons_zero, List.getElem?_cons_succ, odt, odf, oip, oin, obt, obf, ont, onf, wrapI, owu, ow8, ow32, otd, oe0, oe1, oe2, oe3, oe4, oe5, oe6, otn, ot1, ot2, ot4, e1, e5, e9, e10, e11]); first | done | rfl)); first | apply zk | (apply zn; (focus rfl); try (focus (first | rfl | (simp [e1, e5, e9, e10, e11]; done)))) | (apply zo; (focus rfl)) | apply gv_u | apply gv_tt | apply gv_ff | apply gv_ft | apply gv_tf | (apply gv_split <;> intro hc <;> try simp only [decide_eq_true_eq, decide_eq_false_iff_not, beq_iff_eq, beq_eq_false_iff_ne, bne_iff_ne, bne_eq_false_iff_eq, Bool.not_true, Bool.not_false, ne_eq] at hc))
 | (simp (disch := omega) only [thenQ_normal, thenQ_exit, thenQ_ret, blockQ_normal, blockQ_ret, blockQ_exit_same, blockQ_exit_ne]))
        have hne : ¬ (xs.take j).map segT = [] := fun e => by have := congrArg List.length e; rw [List.length_map, List.length_take] at this; simp only [List.length_nil] at this; omega
        refine ⟨j + 1, ⟨by simp [e1], by simp [e5], by simp [e9], by simp [e10], by simp, by omega, ?_, hni2⟩, by omega⟩
        rw [htk, ht, hjo, if_neg hne]
        simpa using q2
  · have hjn : j = xs.length := by omega
    subst hjn
    rw [List.take_of_length_le (Nat.le_refl _)] at B hni hjl
    have e : rowT (xs.map segT) = joinT (xs.map segT) := if_neg hni
    rw [e]
    obtain ⟨h2, hs⟩ := bstr_R B (by omega)
    repeat' (first
 | refine za ?_ | refine zb ?_ | refine zc ?_ | refine zd ?_ | refine ze ?_ | refine zf ?_ | refine zg ?_ | refine zh ?_ | (refine zi ?_; try refine RgD_plain rfl ?_) | refine w_drawn rfl ?_ | refine zj ?_ | refine zl ?_
 | ((first | apply zs | (apply zt; (focus rfl)) | (apply zu; (focus rfl)) | (apply zv; (focus rfl)) | apply zw | apply zx | apply zy | apply zB | apply zC | apply zD | apply zE | apply zF); (focus ((conv => lhs; simp (disch := omega) [-env0_get, bound, List.getElem?_cons_zero, List.getElem?_cons_succ, odt, odf, oip, oin, obt, obf, ont, onf, wrapI, owu, ow8, ow32, otd, oe0, oe1, oe2, oe3, oe4, oe5, oe6, otn, ot1, ot2, ot4, e1, e5, e9, e10, e11]); first | done | rfl)); first | apply zk | (apply zn; (focus rfl); try (focus (first | rfl | (simp [e1, e5, e9, e10, e11]; done)))) | (apply zo; (focus rfl)) | apply gv_u | apply gv_tt | apply gv_ff | apply gv_ft | apply gv_tf | (apply gv_split <;> intro hc <;> try simp only [decide_eq_true_eq, decide_eq_false_iff_not, beq_iff_eq, beq_eq_false_iff_ne, bne_iff_ne, bne_eq_false_iff_eq, Bool.not_true, Bool.not_false, ne_eq] at hc) | exact hs)
 | (simp (disch := omega) only [thenQ_normal, thenQ_exit, thenQ_ret, blockQ_normal, blockQ_ret, blockQ_exit_same, blockQ_exit_ne]))
theorem rowS_R {v : Value} {xs : List Sp} (hr : SRow h v xs) (hl : xs.length ≤ 10000) (hok : ∀ x ∈ xs, okS x) : Runs X ⟨f, []⟩ 58 [v, .func (.func 54) #[] #[]] h (sv (rowT (xs.map boundT))) h := by
  refine Runs_of rfl f58_is ?_
  have hsz0 := hr.len
  obtain ⟨aw, cw, rfl⟩ := hr.form
  simp only [f58b, f58r0, f58r1, f58r2, f58r13]
  repeat' (first
 | refine za ?_ | refine zb ?_ | refine zc ?_ | refine zd ?_ | refine ze ?_ | refine zf ?_ | refine zg ?_ | refine zh ?_ | (refine zi ?_; try refine RgD_plain rfl ?_) | refine w_drawn rfl ?_ | refine zj ?_ | refine zl ?_
 | ((first | apply zs | (apply zt; (focus rfl)) | (apply zu; (focus rfl)) | (apply zv; (focus rfl)) | apply zx | apply zy | apply zB | apply zC | apply zD | apply zE | apply zF); (focus ((conv => lhs; simp (disch := omega) [-env0_get, bound, List.getElem?_cons_zero, List.getElem?_cons_succ, odt, odf, oip, oin, obt, obf, ont, onf, wrapI, owu, ow8, ow32, otd, oe0, oe1, oe2, oe3, oe4, oe5, oe6, otn, ot1, ot2, ot4]); first | done | rfl)); first | apply zk | (apply zn; (focus rfl); try (focus (first | rfl | (simp; done)))) | (apply zo; (focus rfl)) | apply gv_u | apply gv_tt | apply gv_ff | apply gv_ft | apply gv_tf | (apply gv_split <;> intro hc <;> try simp only [decide_eq_true_eq, decide_eq_false_iff_not, beq_iff_eq, beq_eq_false_iff_ne, bne_iff_ne, bne_eq_false_iff_eq, Bool.not_true, Bool.not_false, ne_eq] at hc))
 | (simp (disch := omega) only [thenQ_normal, thenQ_exit, thenQ_ret, blockQ_normal, blockQ_ret, blockQ_exit_same, blockQ_exit_ne]))
  have B0 : BS h (h.push (.cells [.pointer none, .slice none 0 0] 95)) h.size [] := ⟨⟨_, _, by simp, .inl rfl, .inl ⟨rfl, rfl⟩, by simp [blk], fun _ => rfl⟩, Nat.le_refl _, (KeepB.refl h none).push _⟩
  refine w_loop (A := Nat) (fun j env h' => env 1 = .func (.func 54) #[] #[] ∧ env 5 = ptr h.size ∧ env 9 = .slice aw xs.length cw ∧ env 10 = .int .i64 (xs.length : Nat) ∧ env 11 = .int .i64 (j : Nat) ∧ j ≤ xs.length ∧ BS h h' h.size (joinT ((xs.take j).map boundT)) ∧ [] ∉ (xs.take j).map boundT) (fun j => xs.length - j) (a0 := 0) ⟨by simp, by simp, by simp, by simp, by simp, by omega, B0, by simp⟩ ?_
  clear B0
  rintro j env h' ⟨e1, e5, e9, e10, e11, hj, B, hni⟩
  have hsz := B.kp.1
  have hjl := joinT_len ((xs.take j).map boundT) (by
    intro t ht
    obtain ⟨x, hx, rfl⟩ := List.mem_map.1 ht
    have := boundT_len (hok x (List.mem_of_mem_take hx)); omega)
  rw [List.length_map, List.length_take, Nat.min_eq_left hj] at hjl
  simp only [f58l12, f58r3, f58r4, f58r5, f58r6, f58r7, f58r8, f58r9, f58r10, f58r11]
  by_cases hlt : j < xs.length
  · obtain ⟨x, hx⟩ : ∃ x, xs[j]? = some x := ⟨_, List.getElem?_eq_getElem hlt⟩
    have hxo := hok x (List.mem_of_getElem? hx)
    obtain ⟨b, o, cs, rfl, hb, hcs, hga⟩ := (hr.keepB B.kp (.inl rfl)).all spC_len (by omega)
    have hg := hga j x hx hlt
    have htk : (xs.take (j + 1)).map boundT = (xs.take j).map boundT ++ [boundT x] := by rw [List.take_add_one, hx]; simp
    have c1 := fun h' => boundText_runs (f := h.size) (h := h') hxo
    cases ht : boundT x with
    | nil =>
      have e : rowT (xs.map boundT) = [] := if_pos (by rw [← ht]; exact List.mem_map_of_mem (List.mem_of_getElem? hx))
      rw [e]
      simp only [ht] at c1
      repeat' (first
 | refine za ?_ | refine zb ?_ | refine zc ?_ | refine zd ?_ | refine ze ?_ | refine zf ?_ | refine zg ?_ | refine zh ?_ | (refine zi ?_; try refine RgD_plain rfl ?_) | refine w_drawn rfl ?_ | refine zj ?_ | refine zl ?_
 | ((first | apply zs | (apply zt; (focus rfl)) | (apply zu; (focus rfl)) | (apply zv; (focus rfl)) | apply zw | apply zx | apply zy | apply zB | apply zC | apply zD | apply zE | apply zF); (focus ((conv => lhs; simp (disch := omega) [-env0_get, bound, List.getElem?_cons_zero, List.getElem?_cons_succ, odt, odf, oip, oin, obt, obf, ont, onf, wrapI, owu, ow8, ow32, otd, oe0, oe1, oe2, oe3, oe4, oe5, oe6, otn, ot1, ot2, ot4, e1, e5, e9, e10, e11, hcs, hg, spC, spV]); first | done | rfl)); first | apply zk | (apply zn; (focus rfl); try (focus (first | rfl | (simp [e1, e5, e9, e10, e11, hcs, hg, spC, spV]; done)))) | (apply zo; (focus rfl)) | apply gv_u | apply gv_tt | apply gv_ff | apply gv_ft | apply gv_tf | (apply gv_split <;> intro hc <;> try simp only [decide_eq_true_eq, decide_eq_false_iff_not, beq_iff_eq, beq_eq_false_iff_ne, bne_iff_ne, bne_eq_false_iff_eq, Bool.not_true, Bool.not_false, ne_eq] at hc) | exact (c1 _))
 | (simp (disch := omega) only [thenQ_normal, thenQ_exit, thenQ_ret, blockQ_normal, blockQ_ret, blockQ_exit_same, blockQ_exit_ne]))
    | cons t0 tr =>
      simp only [ht] at c1
      have hxl := boundT_len hxo
      rw [ht, List.length_cons] at hxl
      have B2 : BS h (h'.push (.cells (spC x) 46)) h.size (joinT ((xs.take j).map boundT)) := B.more ((KeepB.refl h' none).push _)
      have hni2 : [] ∉ (xs.take (j + 1)).map boundT := by rw [htk, List.mem_append, ht]; simp at hni ⊢; exact hni
      have hjo := joinT_app ((xs.take j).map boundT) (t0 :: tr)
      by_cases hj0 : j = 0
      · subst hj0
        have hg0 := hg
        rw [Nat.zero_mul, Nat.add_zero] at hg0
        repeat' (first
 | refine za ?_ | refine zb ?_ | refine zc ?_ | refine zd ?_ | refine ze ?_ | refine zf ?_ | refine zg ?_ | refine zh ?_ | (refine zi ?_; try refine RgD_plain rfl ?_) | refine w_drawn rfl ?_ | refine zj ?_ | refine zl ?_
 | ((first | apply zs | (apply zt; (focus rfl)) | (apply zu; (focus rfl)) | (apply zv; (focus rfl)) | apply zw | apply zx | apply zy | apply zB | apply zC | apply zD | apply zE | apply zF); (focus ((conv => lhs; simp (disch := omega) [-env0_get, bound, List.getElem?_cons_zero, List.getElem?_cons_succ, odt, odf, oip, oin, obt, obf, ont, onf, wrapI, owu, ow8, ow32, otd, oe0, oe1, oe2, oe3, oe4, oe5, oe6, otn, ot1, ot2, ot4, e1, e5, e9, e10, e11, hcs, hg0, spC, spV]); first | done | rfl)); first | apply zk | (apply zn; (focus rfl); try (focus (first | rfl | (simp [e1, e5, e9, e10, e11, hcs, hg0, spC, spV]; done)))) | (apply zo; (focus rfl)) | apply gv_u | apply gv_tt | apply gv_ff | apply gv_ft | apply gv_tf | (apply gv_split <;> intro hc <;> try simp only [decide_eq_true_eq, decide_eq_false_iff_not, beq_iff_eq, beq_eq_false_iff_ne, bne_iff_ne, bne_eq_false_iff_eq, Bool.not_true, Bool.not_false, ne_eq] at hc) | exact (c1 _))
 | (simp (disch := omega) only [thenQ_normal, thenQ_exit, thenQ_ret, blockQ_normal, blockQ_ret, blockQ_exit_same, blockQ_exit_ne]))
        (apply zW; (focus ((conv => lhs; simp (disch := omega) [-env0_get, bound, List.getElem?_cons_zero, List.getElem?_cons_succ, odt, odf, oip, oin, obt, obf, ont, onf, wrapI, owu, ow8, ow32, otd, oe0, oe1, oe2, oe3, oe4, oe5, oe6, otn, ot1, ot2, ot4, e1, e5, e9, e10, e11]); first | done | rfl)); (focus exact (wstr_R (s := t0 :: tr) B2 (by omega) (by simp) (by simp; omega)))); intro v2 h2 q2
        repeat' (first
 | refine za ?_ | refine zb ?_ | refine zc ?_ | refine zd ?_ | refine ze ?_ | refine zf ?_ | refine zg ?_ | refine zh ?_ | (refine zi ?_; try refine RgD_plain rfl ?_) | refine w_drawn rfl ?_ | refine zj ?_ | refine zl ?_
 | ((first | apply zs | (apply zt; (focus rfl)) | (apply zu; (focus rfl)) | (apply zv; (focus rfl)) | apply zx | apply zy | apply zB | apply zC | apply zD | apply zE | apply zF); (focus ((conv => lhs; simp (disch := omega) [-env0_get, bound, List.getElem?_cons_zero, List.getElem?_cons_succ, odt, odf, oip, oin, obt, obf, ont, onf, wrapI, owu, ow8, ow32, otd, oe0, oe1, oe2, oe3, oe4, oe5, oe6, otn, ot1, ot2, ot4, e1, e5, e9, e10, e11]); first | done | rfl)); first | apply zk | (apply zn; (focus rfl); try (focus (first | rfl | (simp [e1, e5, e9, e10, e11]; done)))) | (apply zo; (focus rfl)) | apply gv_u | apply gv_tt | apply gv_ff | apply gv_ft | apply gv_tf | (apply gv_split <;> intro hc <;> try simp only [decide_eq_true_eq, decide_eq_false_iff_not, beq_iff_eq, beq_eq_false_iff_ne, bne_iff_ne, bne_eq_false_iff_eq, Bool.not_true, Bool.not_false, ne_eq] at hc))
 | (simp (disch := omega) only [thenQ_normal, thenQ_exit, thenQ_ret, blockQ_normal, blockQ_ret, blockQ_exit_same, blockQ_exit_ne]))
        refine ⟨1, ⟨by simp [e1], by simp [e5], by simp [e9], by simp [e10], by simp, by omega, ?_, hni2⟩, by omega⟩
        rw [htk, ht, hjo]
        simpa [joinT] using q2
      · repeat' (first
 | refine za ?_ | refine zb ?_ | refine zc ?_ | refine zd ?_ | refine ze ?_ | refine zf ?_ | refine zg ?_ | refine zh ?_ | (refine zi ?_; try refine RgD_plain rfl ?_) | refine w_drawn rfl ?_ | refine zj ?_ | refine zl ?_
 | ((first | apply zs | (apply zt; (focus rfl)) | (apply zu; (focus rfl)) | (apply zv; (focus rfl)) | apply zw | apply zx | apply zy | apply zB | apply zC | apply zD | apply zE | apply zF); (focus ((conv => lhs; simp (disch := omega) [-env0_get, bound, List.getElem?_cons_zero, List.getElem?_cons_succ, odt, odf, oip, oin, obt, obf, ont, onf, wrapI, owu, ow8, ow32, otd, oe0, oe1, oe2, oe3, oe4, oe5, oe6, otn, ot1, ot2, ot4, e1, e5, e9, e10, e11, hcs, hg, spC, spV]); first | done | rfl)); first | apply zk | (apply zn; (focus rfl); try (focus (first | rfl | (simp [e1, e5, e9, e10, e11, hcs, hg, spC, spV]; done)))) | (apply zo; (focus rfl)) | apply gv_u | apply gv_tt | apply gv_ff | apply gv_ft | apply gv_tf | (apply gv_split <;> intro hc <;> try simp only [decide_eq_true_eq, decide_eq_false_iff_not, beq_iff_eq, beq_eq_false_iff_ne, bne_iff_ne, bne_eq_false_iff_eq, Bool.not_true, Bool.not_false, ne_eq] at hc) | exact (c1 _))
 | (simp (disch := omega) only [thenQ_normal, thenQ_exit, thenQ_ret, blockQ_normal, blockQ_ret, blockQ_exit_same, blockQ_exit_ne]))
        (apply zW; (focus ((conv => lhs; simp (disch := omega) [-env0_get, bound, List.getElem?_cons_zero, List.getElem?_cons_succ, odt, odf, oip, oin, obt, obf, ont, onf, wrapI, owu, ow8, ow32, otd, oe0, oe1, oe2, oe3, oe4, oe5, oe6, otn, ot1, ot2, ot4, e1, e5, e9, e10, e11]); first | done | rfl)); (focus exact (wbyte_R B2 (by omega)))); intro v1 h1 q1
        repeat' (first
 | refine za ?_ | refine zb ?_ | refine zc ?_ | refine zd ?_ | refine ze ?_ | refine zf ?_ | refine zg ?_ | refine zh ?_ | (refine zi ?_; try refine RgD_plain rfl ?_) | refine w_drawn rfl ?_ | refine zj ?_ | refine zl ?_
 | ((first | apply zs | (apply zt; (focus rfl)) | (apply zu; (focus rfl)) | (apply zv; (focus rfl)) | apply zx | apply zy | apply zB | apply zC | apply zD | apply zE | apply zF); (focus ((conv => lhs; simp (disch := omega) [-env0_get, bound, List.getElem?_cons_zero, List.getElem?_cons_succ, odt, odf, oip, oin, obt, obf, ont, onf, wrapI, owu, ow8, ow32, otd, oe0, oe1, oe2, oe3, oe4, oe5, oe6, otn, ot1, ot2, ot4, e1, e5, e9, e10, e11]); first | done | rfl)); first | apply zk | (apply zn; (focus rfl); try (focus (first | rfl | (simp [e1, e5, e9, e10, e11]; done)))) | (apply zo; (focus rfl)) | apply gv_u | apply gv_tt | apply gv_ff | apply gv_ft | apply gv_tf | (apply gv_split <;> intro hc <;> try simp only [decide_eq_true_eq, decide_eq_false_iff_not, beq_iff_eq, beq_eq_false_iff_ne, bne_iff_ne, bne_eq_false_iff_eq, Bool.not_true, Bool.not_false, ne_eq] at hc))
 | (simp (disch := omega) only [thenQ_normal, thenQ_exit, thenQ_ret, blockQ_normal, blockQ_ret, blockQ_exit_same, blockQ_exit_ne]))
        (apply zW; (focus ((conv => lhs; simp (disch := omega) [-env0_get, bound, List.getElem?_cons_zero, List.getElem?_cons_succ, odt, odf, oip, oin, obt, obf, ont, onf, wrapI, owu, ow8, ow32, otd, oe0, oe1, oe2, oe3, oe4, oe5, oe6, otn, ot1, ot2, ot4, e1, e5, e9, e10, e11]); first | done | rfl)); (focus exact (wstr_R (s := t0 :: tr) q1 (by rw [List.length_append]; simp only [List.length_cons, List.length_nil]; omega) (by simp) (by simp; omega)))); intro v2 h2 q2
        repeat' (first
 | refine za ?_ | refine zb ?_ | refine zc ?_ | refine zd ?_ | refine ze ?_ | refine zf ?_ | refine zg ?_ | refine zh ?_ | (refine zi ?_; try refine RgD_plain rfl ?_) | refine w_drawn rfl ?_ | refine zj ?_ | refine zl ?_
 | ((first | apply zs | (apply zt; (focus rfl)) | (apply zu; (focus rfl)) | (apply zv; (focus rfl)) | apply zx | apply zy | apply zB | apply zC | apply zD | apply zE | apply zF); (focus ((conv => lhs; simp (disch := omega) [-env0_get, bound, List.getElem?_cons_zero, List.getElem?_cons_succ, odt, odf, oip, oin, obt, obf, ont, onf, wrapI, owu, ow8, ow32, otd, oe0, oe1, oe2, oe3, oe4, oe5, oe6, otn, ot1, ot2, ot4, e1, e5, e9, e10, e11]); first | done | rfl)); first | apply zk | (apply zn; (focus rfl); try (focus (first | rfl | (simp [e1, e5, e9, e10, e11]; done)))) | (apply zo; (focus rfl)) | apply gv_u | apply gv_tt | apply gv_ff | apply gv_ft | apply gv_tf | (apply gv_split <;> intro hc <;> try simp only [decide_eq_true_eq, decide_eq_false_iff_not, beq_iff_eq, beq_eq_false_iff_ne, bne_iff_ne, bne_eq_false_iff_eq, Bool.not_true, Bool.not_false, ne_eq] at hc))
 | (simp (disch := omega) only [thenQ_normal, thenQ_exit, thenQ_ret, blockQ_normal, blockQ_ret, blockQ_exit_same, blockQ_exit_ne]))
        have hne : ¬ (xs.take j).map boundT = [] := fun e => by have := congrArg List.length e; rw [List.length_map, List.length_take] at this; simp only [List.length_nil] at this; omega
        refine ⟨j + 1, ⟨by simp [e1], by simp [e5], by simp [e9], by simp [e10], by simp, by omega, ?_, hni2⟩, by omega⟩
        rw [htk, ht, hjo, if_neg hne]
        simpa using q2
  · have hjn : j = xs.length := by omega
    subst hjn
    rw [List.take_of_length_le (Nat.le_refl _)] at B hni hjl
    have e : rowT (xs.map boundT) = joinT (xs.map boundT) := if_neg hni
    rw [e]
    obtain ⟨h2, hs⟩ := bstr_R B (by omega)
    repeat' (first
 | refine za ?_ | refine zb ?_ | refine zc ?_ | refine zd ?_ | refine ze ?_ | refine zf ?_ | refine zg ?_ | refine zh ?_ | (refine zi ?_; try refine RgD_plain rfl ?_) | refine w_drawn rfl ?_ | refine zj ?_ | refine zl ?_
 | ((first | apply zs | (apply zt; (focus rfl)) | (apply zu; (focus rfl)) | (apply zv; (focus rfl)) | apply zw | apply zx | apply zy | apply zB | apply zC | apply zD | apply zE | apply zF); (focus ((conv => lhs; simp (disch := omega) [-env0_get, bound, List.getElem?_cons_zero, List.getElem?_cons_succ, odt, odf, oip, oin, obt, obf, ont, onf, wrapI, owu, ow8, ow32, otd, oe0, oe1, oe2, oe3, oe4, oe5, oe6, otn, ot1, ot2, ot4, e1, e5, e9, e10, e11]); first | done | rfl)); first | apply zk | (apply zn; (focus rfl); try (focus (first | rfl | (simp [e1, e5, e9, e10, e11]; done)))) | (apply zo; (focus rfl)) | apply gv_u | apply gv_tt | apply gv_ff | apply gv_ft | apply gv_tf | (apply gv_split <;> intro hc <;> try simp only [decide_eq_true_eq, decide_eq_false_iff_not, beq_iff_eq, beq_eq_false_iff_ne, bne_iff_ne, bne_eq_false_iff_eq, Bool.not_true, Bool.not_false, ne_eq] at hc) | exact hs)
 | (simp (disch := omega) only [thenQ_normal, thenQ_exit, thenQ_ret, blockQ_normal, blockQ_ret, blockQ_exit_same, blockQ_exit_ne]))
end Go.Proofs.Ytlgbeekhaoiggaa
end
