import Derived.Test.YtlgbeekhaoiggaaCodeM
set_option linter.all false
section
namespace Go.Proofs.Ytlgbeekhaoiggaa
open Go.AM
set_option maxHeartbeats 4000000
variable {f : Nat} {h : Heap}
def digN (n : Nat) : List Nat := if _h : n = 0 then [] else (n % 10) :: digN (n / 10)
termination_by n
decreasing_by omega
theorem digN_zero : digN 0 = [] := by rw [digN, dif_pos rfl]
theorem digN_pos {n : Nat} (h : n ≠ 0) : digN n = (n % 10) :: digN (n / 10) := by rw [digN, dif_neg h]
theorem digN_len : ∀ (k n : Nat), n < 10 ^ k → (digN n).length ≤ k
  | 0, n, hn => by
    have h0 : n = 0 := by rw [Nat.pow_zero] at hn; omega
    rw [h0, digN_zero]; simp
  | k + 1, n, hn => by
    by_cases h0 : n = 0
    · rw [h0, digN_zero]; simp
    · rw [digN_pos h0]
      have := digN_len k (n / 10) (by rw [Nat.pow_succ] at hn; omega)
      simp; omega
theorem digN_digR : ∀ (n : Nat), n ≠ 0 → (digN n).map (fun d => UInt8.ofNat (48 + d)) = digR n := by
  intro n
  induction n using Nat.strongRecOn with
  | _ n ih =>
    intro h0
    rw [digN_pos h0]
    by_cases h10 : n < 10
    · rw [digR_small h10, Nat.div_eq_of_lt h10, digN_zero, Nat.mod_eq_of_lt h10]; rfl
    · rw [digR_big h10, List.map_cons, ih (n / 10) (by omega) (by omega)]
def sgI (v : Int) : Int := if v < 0 then -1 else if v = 0 then 0 else 1
theorem finish_agg {h0 h : Heap} {w : Value} {l : List Nat} {s : Int} (hb : Buf h0.size h 3 1 w (nvs l)) :
    ∃ w' h', finish .pure h0 h (.agg #[.int .i64 s, w]) = some (.agg #[.int .i64 s, w'], h') ∧ KeepB h0 h' none ∧ NRow h' w' l := by
  rcases hb with ⟨rfl, hl⟩ | ⟨b, n, rfl, hn, hc, hb⟩
  · have : l = [] := by simpa [nvs] using hl
    subst this
    exact ⟨_, h0, finish_pure (by simp [vBelow, vb]), .refl _ _, ⟨.inl ⟨rfl, rfl, rfl⟩⟩⟩
  · have hlen : n = l.length := by simpa [nvs] using hn
    subst hlen
    refine ⟨.slice (some ⟨h0.size, 0, none⟩) l.length l.length, h0.push (.cells (nvs l) 3), ?_, (KeepB.refl _ _).push _, NRow.new rfl rfl⟩
    have hlt : ¬ b < h0.size := by omega
    simp [finish, outTop, outAgg, outLeaf, outList, vBelow, vb, hlt, hc, nvs]
theorem bigOf_R {v : Int} (hv : okI v) : callR X ⟨f, []⟩ 95 [.int .i64 v] h fun r h' => ∃ w, r = .agg #[.int .i64 (sgI v), w] ∧ KeepB h h' none ∧ NRow h' w (digN v.natAbs) := by
  unfold okI at hv
  refine callR_of rfl f95_is ?_
  simp only [f95b, f95r0, f95r1, f95r2, f95r3, f95r4]
  generalize hC : (ACode.seq (ACode.block 0 (ACode.loop f95l11)) _) = C
  obtain ⟨sg, hsg⟩ : ∃ sg : Int, sg = if v < 0 then -1 else 1 := ⟨_, rfl⟩
  have hdl := digN_len 20 v.natAbs (by omega)
  have main : ∀ (env : Env), env 0 = .int .i64 v → env 2 = ptr h.size → env 3 = ptr (h.size + 1) → Ok X ⟨h.size, []⟩ C env ((h.push (.cells [.int .i64 0, .slice none 0 0] 108)).push (.cells [.int .i64 sg, .slice none 0 0] 108))
      (EndsR [.cellN 2 2] .pure h fun r h' => ∃ w, r = .agg #[.int .i64 (sgI v), w] ∧ KeepB h h' none ∧ NRow h' w (digN v.natAbs)) := by
    intro env e0 e2 e3
    rw [← hC]
    simp only [f95l11, f95r5, f95r6, f95r7, f95r8, f95r9, f95r10, f95r12, f95r13, f95r14]
    have hvs : v = sg * (v.natAbs : Int) := by rw [hsg]; split <;> omega
    repeat' (first
 | refine za ?_ | refine zb ?_ | refine zc ?_ | refine zd ?_ | refine ze ?_ | refine zf ?_ | refine zg ?_ | refine zh ?_ | (refine zi ?_; try refine RgD_plain rfl ?_) | refine w_drawn rfl ?_ | refine zj ?_ | refine zl ?_
 | ((first | apply zs | (apply zt; (focus rfl)) | (apply zu; (focus rfl)) | (apply zv; (focus rfl)) | apply zx | apply zy | apply zB | apply zC | apply zD | apply zE | apply zF); (focus ((conv => lhs; simp (disch := omega) [-env0_get, bound, List.getElem?_cons_zero, List.getElem?_cons_succ, odt, odf, oip, oin, obt, obf, ont, onf, wrapI, owu, ow8, ow32, otd, oe0, oe1, oe2, oe3, oe4, oe5, oe6, otn, ot1, ot2, ot4]); first | done | rfl)); first | apply zk | (apply zn; (focus rfl); try (focus (first | rfl | (simp; done)))) | (apply zo; (focus rfl)) | apply gv_u | apply gv_tt | apply gv_ff | apply gv_ft | apply gv_tf | (apply gv_split <;> intro hc <;> try simp only [decide_eq_true_eq, decide_eq_false_iff_not, beq_iff_eq, beq_eq_false_iff_ne, bne_iff_ne, bne_eq_false_iff_eq, Bool.not_true, Bool.not_false, ne_eq] at hc))
 | (simp (disch := omega) only [thenQ_normal, thenQ_exit, thenQ_ret, blockQ_normal, blockQ_ret, blockQ_exit_same, blockQ_exit_ne]))
    refine w_loop (A := Nat × List Nat × Option Addr × Nat) (fun a env h' => env 0 = .int .i64 (sg * (a.1 : Nat)) ∧ env 2 = ptr h.size ∧ env 3 = ptr (h.size + 1) ∧ h'[h.size]? = some (.cells [.int .i64 0, .slice none 0 0] 108) ∧ h'[h.size + 1]? = some (.cells [.int .i64 sg, .slice a.2.2.1 a.2.2.2 a.2.2.2] 108) ∧
      Buf h.size h' 3 1 (.slice a.2.2.1 a.2.2.2 a.2.2.2) (nvs a.2.1) ∧ KeepB h h' none ∧ blk (.slice a.2.2.1 a.2.2.2 a.2.2.2) ≠ some h.size ∧ blk (.slice a.2.2.1 a.2.2.2 a.2.2.2) ≠ some (h.size + 1) ∧ a.2.1 ++ digN a.1 = digN v.natAbs ∧ a.1 ≤ v.natAbs) (fun a => a.1) (a0 := (v.natAbs, [], none, 0))
      ⟨by rw [e0]; exact congrArg _ hvs, e2, e3, by rw [Array.getElem?_push, if_neg (by simp), Array.getElem?_push, if_pos rfl], by rw [Array.getElem?_push, if_pos (by simp)], .inl ⟨rfl, rfl⟩, ((KeepB.refl h none).push _).push _, by simp [blk], by simp [blk], rfl, Nat.le_refl _⟩ ?_
    rintro ⟨n, ds, a, m⟩ env h' ⟨d0, d2, d3, c2, c3, gb, kp, b2, b3, hd, hn⟩
    simp only at d0 c3 gb b2 b3 hd hn
    have g2 := cellsAt_of c2
    have g3 := cellsAt_of c3
    have s2 := lt_of c2
    have s3 := lt_of c3
    have hdl2 : ds.length + (digN n).length ≤ 20 := by have := congrArg List.length hd; simp at this; omega
    by_cases h0 : n = 0
    · subst h0
      rw [digN_zero, List.append_nil] at hd
      subst hd
      have d0 : env 0 = .int .i64 0 := by simpa using d0
      have hm : m = (digN v.natAbs).length := by
        rcases gb with ⟨e, e2⟩ | ⟨y, n', e, h1, _, _⟩
        · cases e; rw [nvs] at e2; rw [List.map_eq_nil_iff.1 e2]; rfl
        · cases e; simpa [nvs] using h1
      have st : ∀ (s' : Int), sgI v = s' → ∀ (env : Env) (h1 : Heap), env 2 = ptr h.size → env 3 = ptr (h.size + 1) → h1[h.size]? = some (.cells [.int .i64 0, .slice none 0 0] 108) → h1[h.size + 1]? = some (.cells [.int .i64 s', .slice a m m] 108) → Buf h.size h1 3 1 (.slice a m m) (nvs (digN v.natAbs)) →
          Ok X ⟨h.size, []⟩ (.seq (.reg f95r14) .ret) env h1 (EndsR [.cellN 2 2] .pure h fun r h' => ∃ w, r = .agg #[.int .i64 (sgI v), w] ∧ KeepB h h' none ∧ NRow h' w (digN v.natAbs)) := by
        intro s' hs' env h1 d2 d3 c2 c3 gb
        simp only [f95r14]
        have g3 := cellsAt_of c3
        have s2 := lt_of c2
        have hb2 : blk (.slice a m m) ≠ some h.size := b2
        have g5 : Heap.cellsAt (h1.setIfInBounds h.size (.cells [.int .i64 s', .slice a m m] 108)) h.size = some [.int .i64 s', .slice a m m] := cellsAt_of (e := 108) (by rw [Array.getElem?_setIfInBounds, if_pos rfl, if_pos s2])
        obtain ⟨w', h2, q1, q2, q3⟩ := finish_agg (s := s') (gb.keepB ((KeepB.refl h1 (some h.size)).set (.cells [.int .i64 s', .slice a m m] 108) (.inr rfl)) (.inr hb2))
        repeat' (first
 | refine za ?_ | refine zb ?_ | refine zc ?_ | refine zd ?_ | refine ze ?_ | refine zf ?_ | refine zg ?_ | refine zh ?_ | (refine zi ?_; try refine RgD_plain rfl ?_) | refine w_drawn rfl ?_ | refine zj ?_ | refine zl ?_
 | ((first | apply zs | (apply zt; (focus rfl)) | (apply zu; (focus rfl)) | (apply zv; (focus rfl)) | apply zx | apply zy | apply zB | apply zC | apply zD | apply zE | apply zF); (focus ((conv => lhs; simp (disch := omega) [-env0_get, bound, List.getElem?_cons_zero, List.getElem?_cons_succ, odt, odf, oip, oin, obt, obf, ont, onf, wrapI, owu, ow8, ow32, otd, oe0, oe1, oe2, oe3, oe4, oe5, oe6, otn, ot1, ot2, ot4, d2, d3, g3, wr_def c2, g5]); first | done | rfl)); first | apply zk | (apply zn; (focus rfl); try (focus (first | rfl | (simp [d2, d3, g3, wr_def c2, g5]; done)))) | (apply zo; (focus rfl)) | apply gv_u | apply gv_tt | apply gv_ff | apply gv_ft | apply gv_tf | (apply gv_split <;> intro hc <;> try simp only [decide_eq_true_eq, decide_eq_false_iff_not, beq_iff_eq, beq_eq_false_iff_ne, bne_iff_ne, bne_eq_false_iff_eq, Bool.not_true, Bool.not_false, ne_eq] at hc))
 | (simp (disch := omega) only [thenQ_normal, thenQ_exit, thenQ_ret, blockQ_normal, blockQ_ret, blockQ_exit_same, blockQ_exit_ne]))
        exact w_endr (vs := [.agg #[.int .i64 s', .slice a m m]]) (by simp [d2, g5, grab]) q1 ⟨w', by rw [hs'], q2, q3⟩
      generalize hS : ACode.seq (ACode.reg f95r14) .ret = S at st
      simp only [f95r14] at hS
      rw [hS]
      by_cases hvz : v = 0
      · have hm0 : m = 0 := by rw [hm, hvz]; simp [digN_zero]
        have hs0 : sgI v = 0 := by rw [hvz]; rfl
        repeat' (first
 | refine za ?_ | refine zb ?_ | refine zc ?_ | refine zd ?_ | refine ze ?_ | refine zf ?_ | refine zg ?_ | refine zh ?_ | (refine zi ?_; try refine RgD_plain rfl ?_) | refine w_drawn rfl ?_ | refine zj ?_ | refine zl ?_
 | ((first | apply zs | (apply zt; (focus rfl)) | (apply zu; (focus rfl)) | (apply zv; (focus rfl)) | apply zx | apply zy | apply zB | apply zC | apply zD | apply zE | apply zF); (focus ((conv => lhs; simp (disch := omega) [-env0_get, bound, List.getElem?_cons_zero, List.getElem?_cons_succ, odt, odf, oip, oin, obt, obf, ont, onf, wrapI, owu, ow8, ow32, otd, oe0, oe1, oe2, oe3, oe4, oe5, oe6, otn, ot1, ot2, ot4, d0, d2, d3, g3, wr_def c3]); first | done | rfl)); first | apply zk | (apply zn; (focus rfl); try (focus (first | rfl | (simp [d0, d2, d3, g3, wr_def c3]; done)))) | (apply zo; (focus rfl)) | apply gv_u | apply gv_tt | apply gv_ff | apply gv_ft | apply gv_tf | (apply gv_split <;> intro hc <;> try simp only [decide_eq_true_eq, decide_eq_false_iff_not, beq_iff_eq, beq_eq_false_iff_ne, bne_iff_ne, bne_eq_false_iff_eq, Bool.not_true, Bool.not_false, ne_eq] at hc))
 | (simp (disch := omega) only [thenQ_normal, thenQ_exit, thenQ_ret, blockQ_normal, blockQ_ret, blockQ_exit_same, blockQ_exit_ne]))
        refine st 0 hs0 _ _ ?_ ?_ ?_ ?_ ?_
        · simp [d2]
        · simp [d3]
        · rw [Array.getElem?_setIfInBounds, if_neg (by omega)]; exact c2
        · rw [Array.getElem?_setIfInBounds, if_pos rfl, if_pos s3]
        · exact gb.keepB ((KeepB.refl h' (some (h.size + 1))).set _ (.inr rfl)) (.inr b3)
      · have hmp : 0 < m := by rw [hm, digN_pos (by omega)]; simp
        have hs1 : sgI v = sg := by unfold sgI; rw [hsg, if_neg hvz]
        repeat' (first
 | refine za ?_ | refine zb ?_ | refine zc ?_ | refine zd ?_ | refine ze ?_ | refine zf ?_ | refine zg ?_ | refine zh ?_ | (refine zi ?_; try refine RgD_plain rfl ?_) | refine w_drawn rfl ?_ | refine zj ?_ | refine zl ?_
 | ((first | apply zs | (apply zt; (focus rfl)) | (apply zu; (focus rfl)) | (apply zv; (focus rfl)) | apply zx | apply zy | apply zB | apply zC | apply zD | apply zE | apply zF); (focus ((conv => lhs; simp (disch := omega) [-env0_get, bound, List.getElem?_cons_zero, List.getElem?_cons_succ, odt, odf, oip, oin, obt, obf, ont, onf, wrapI, owu, ow8, ow32, otd, oe0, oe1, oe2, oe3, oe4, oe5, oe6, otn, ot1, ot2, ot4, d0, d2, d3, g3]); first | done | rfl)); first | apply zk | (apply zn; (focus rfl); try (focus (first | rfl | (simp [d0, d2, d3, g3]; done)))) | (apply zo; (focus rfl)) | apply gv_u | apply gv_tt | apply gv_ff | apply gv_ft | apply gv_tf | (apply gv_split <;> intro hc <;> try simp only [decide_eq_true_eq, decide_eq_false_iff_not, beq_iff_eq, beq_eq_false_iff_ne, bne_iff_ne, bne_eq_false_iff_eq, Bool.not_true, Bool.not_false, ne_eq] at hc))
 | (simp (disch := omega) only [thenQ_normal, thenQ_exit, thenQ_ret, blockQ_normal, blockQ_ret, blockQ_exit_same, blockQ_exit_ne]))
        refine st sg hs1 _ _ ?_ ?_ c2 c3 gb
        · simp [d2]
        · simp [d3]
    · have hsg' : sg = 1 ∨ sg = -1 := by rw [hsg]; split <;> simp
      rw [digN_pos h0] at hd hdl2
      simp only [List.length_cons] at hdl2
      obtain ⟨x, hx⟩ : ∃ x : Int, sg * (n : Int) = x := ⟨_, rfl⟩
      obtain ⟨t, ht⟩ : ∃ t : Int, x.tmod 10 = t := ⟨_, rfl⟩
      have htm : (n : Int).tmod 10 = ((n % 10 : Nat) : Int) := by rw [Int.tmod_eq_emod_of_nonneg (by omega)]; omega
      have htd : (n : Int).tdiv 10 = ((n / 10 : Nat) : Int) := by rw [Int.tdiv_eq_ediv_of_nonneg (by omega)]; omega
      have hxb : ¬ x = 0 ∧ -9223372036854775808 ≤ x ∧ x ≤ 9223372036854775807 := by rcases hsg' with q | q <;> rw [q] at hx <;> omega
      have hxd : x.tdiv 10 = sg * ((n / 10 : Nat) : Int) := by
        rcases hsg' with q | q <;> rw [q] at hx ⊢ <;> rw [← hx]
        · rw [Int.one_mul, Int.one_mul, htd]
        · rw [Int.neg_mul, Int.one_mul, Int.neg_mul, Int.one_mul, Int.neg_tdiv, htd]
      have htt : (t < 0 → -t = ((n % 10 : Nat) : Int)) ∧ (¬ t < 0 → t = ((n % 10 : Nat) : Int)) := by
        rcases hsg' with q | q <;> rw [q] at hx <;> rw [← ht, ← hx]
        · rw [Int.one_mul, htm]; omega
        · rw [Int.neg_mul, Int.one_mul, Int.neg_tmod, htm]; omega
      rw [hx] at d0
      generalize hT : ACode.seq (ACode.reg [⟨some 17, .addOff 1 (.t 3), none⟩, ⟨some 18, .load1 (.t 17), none⟩, ⟨some 19, .mov (.t 4), none⟩, ⟨some 20, .buildSlice 3 1 [.int .i64 0] [(0, 1, .t 19)], none⟩, ⟨some 21, .append 3 1 8 (.t 18) (.t 20), none⟩, ⟨some 22, .addOff 1 (.t 3), none⟩, ⟨none, .store 1 (.t 22) (.t 21), none⟩]) _ = T
      have tl : ∀ (env : Env), env 0 = .int .i64 x → env 2 = ptr h.size → env 3 = ptr (h.size + 1) → env 4 = .int .i64 ((n % 10 : Nat) : Int) → Ok X ⟨h.size, []⟩ T env h' (fun ex e h2 => ex = .normal ∧ e 0 = .int .i64 (sg * ((n / 10 : Nat) : Int)) ∧ e 2 = ptr h.size ∧ e 3 = ptr (h.size + 1) ∧ ∃ a2 m2, h2[h.size]? = some (.cells [.int .i64 0, .slice none 0 0] 108) ∧ h2[h.size + 1]? = some (.cells [.int .i64 sg, .slice a2 m2 m2] 108) ∧
          Buf h.size h2 3 1 (.slice a2 m2 m2) (nvs (ds ++ [n % 10])) ∧ KeepB h h2 none ∧ blk (.slice a2 m2 m2) ≠ some h.size ∧ blk (.slice a2 m2 m2) ≠ some (h.size + 1)) := by
        intro env d0 d2 d3 d4
        rw [← hT]
        repeat' (first
 | refine za ?_ | refine zb ?_ | refine zc ?_ | refine zd ?_ | refine ze ?_ | refine zf ?_ | refine zg ?_ | refine zh ?_ | (refine zi ?_; try refine RgD_plain rfl ?_) | refine w_drawn rfl ?_ | refine zj ?_ | refine zl ?_
 | ((first | apply zs | (apply zt; (focus rfl)) | (apply zu; (focus rfl)) | (apply zv; (focus rfl)) | apply zx | apply zy | apply zB | apply zC | apply zD | apply zE | apply zF); (focus ((conv => lhs; simp (disch := omega) [-env0_get, bound, List.getElem?_cons_zero, List.getElem?_cons_succ, odt, odf, oip, oin, obt, obf, ont, onf, wrapI, owu, ow8, ow32, otd, oe0, oe1, oe2, oe3, oe4, oe5, oe6, otn, ot1, ot2, ot4, d0, d2, d3, d4, g3]); first | done | rfl)); first | apply zk | (apply zn; (focus rfl); try (focus (first | rfl | (simp [d0, d2, d3, d4, g3]; done)))) | (apply zo; (focus rfl)) | apply gv_u | apply gv_tt | apply gv_ff | apply gv_ft | apply gv_tf | (apply gv_split <;> intro hc <;> try simp only [decide_eq_true_eq, decide_eq_false_iff_not, beq_iff_eq, beq_eq_false_iff_ne, bne_iff_ne, bne_eq_false_iff_eq, Bool.not_true, Bool.not_false, ne_eq] at hc))
 | (simp (disch := omega) only [thenQ_normal, thenQ_exit, thenQ_ret, blockQ_normal, blockQ_ret, blockQ_exit_same, blockQ_exit_ne]))
        have hds : ds.length = m := by
          rcases gb with ⟨e, e2⟩ | ⟨y, n', e, h1, _, _⟩
          · cases e; rw [nvs] at e2; rw [List.map_eq_nil_iff.1 e2]; rfl
          · cases e; simpa [nvs] using h1.symm
        have hsz := kp.1
        obtain ⟨w2, h2, q1, q2, q3, q4⟩ := append_buf (f := h.size) (by_ := 8) (n := ds.length) (m := 1) (x := .slice (some ⟨h'.size, 0, none⟩) 1 1) (l2 := nvs [n % 10]) (by omega : 0 < 1) (by simp; omega) (gb.keepB ((KeepB.refl h' none).push (.cells [.int .i64 ((n : Int) % 10)] 3)) (.inl rfl)) (by simp [srcCells, nvs]) (by omega) (by simp [nvs]) (nvs_one _) (nvs_one _) (by omega) (by omega) (by simp [nvs])
        obtain ⟨a2, m2, rfl⟩ := q2.form
        refine w_mem (v := .slice a2 m2 m2) (h' := h2) rfl (by simpa using q1) ?_
        have k2 := q3.1
        simp only [Array.size_push] at k2
        have c22 : h2[h.size]? = some (.cells [.int .i64 0, .slice none 0 0] 108) := by rw [q3.2 h.size (by simp; omega) (fun q => b2 q), Array.getElem?_push, if_neg (by omega)]; exact c2
        have c32 : h2[h.size + 1]? = some (.cells [.int .i64 sg, .slice a m m] 108) := by rw [q3.2 (h.size + 1) (by simp; omega) (fun q => b3 q), Array.getElem?_push, if_neg (by omega)]; exact c3
        have s32 := lt_of c32
        repeat' (first
 | refine za ?_ | refine zb ?_ | refine zc ?_ | refine zd ?_ | refine ze ?_ | refine zf ?_ | refine zg ?_ | refine zh ?_ | (refine zi ?_; try refine RgD_plain rfl ?_) | refine w_drawn rfl ?_ | refine zj ?_ | refine zl ?_
 | ((first | apply zs | (apply zt; (focus rfl)) | (apply zu; (focus rfl)) | (apply zv; (focus rfl)) | apply zx | apply zy | apply zB | apply zC | apply zD | apply zE | apply zF); (focus ((conv => lhs; simp (disch := omega) [-env0_get, bound, List.getElem?_cons_zero, List.getElem?_cons_succ, odt, odf, oip, oin, obt, obf, ont, onf, wrapI, owu, ow8, ow32, otd, oe0, oe1, oe2, oe3, oe4, oe5, oe6, otn, ot1, ot2, ot4, d0, d2, d3, d4, wr_def c32, hxd]); first | done | rfl)); first | apply zk | (apply zn; (focus rfl); try (focus (first | rfl | (simp [d0, d2, d3, d4, wr_def c32, hxd]; done)))) | (apply zo; (focus rfl)) | apply gv_u | apply gv_tt | apply gv_ff | apply gv_ft | apply gv_tf | (apply gv_split <;> intro hc <;> try simp only [decide_eq_true_eq, decide_eq_false_iff_not, beq_iff_eq, beq_eq_false_iff_ne, bne_iff_ne, bne_eq_false_iff_eq, Bool.not_true, Bool.not_false, ne_eq] at hc))
 | (simp (disch := omega) only [thenQ_normal, thenQ_exit, thenQ_ret, blockQ_normal, blockQ_ret, blockQ_exit_same, blockQ_exit_ne]))
        have hb4 : ∀ y, y < h'.size → blk (.slice a2 m2 m2) ≠ some y := fun y hy e => by rw [q4] at e; simp at e; omega
        have hbw : ∀ b, blk (.slice a m m) = some b → h.size ≤ b := by
          intro b hb
          rcases gb with ⟨e, _⟩ | ⟨b', n', e, _, hc, g⟩
          · cases e; simp [blk] at hb
          · cases e; simp [blk] at hb; subst hb; exact g
        have kp2 : KeepB h h2 none := (kp.push _).trans' q3 hbw
        have hwr : IntKind.i64.wrap (sg * ((n : Int) / 10)) = sg * ((n : Int) / 10) := wrapI (by rcases hsg' with q | q <;> rw [q] <;> omega)
        refine ⟨by trivial, by simp [hwr], by simp [d2], by simp [d3], a2, m2, ?_, ?_, ?_, kp2.trans' ((KeepB.refl h2 (some (h.size + 1))).set _ (.inr rfl)) (fun b hb => by cases hb; omega), hb4 _ s2, hb4 _ s3⟩
        · rw [Array.getElem?_setIfInBounds, if_neg (by omega)]; exact c22
        · rw [Array.getElem?_setIfInBounds, if_pos rfl, if_pos s32]
        · rw [nvs_app]; exact q2.keepB ((KeepB.refl h2 (some (h.size + 1))).set _ (.inr rfl)) (.inr (hb4 _ s3))
      have fin : ∀ (e : Env) (h2 : Heap), (e 0 = .int .i64 (sg * ((n / 10 : Nat) : Int)) ∧ e 2 = ptr h.size ∧ e 3 = ptr (h.size + 1) ∧ ∃ a2 m2, h2[h.size]? = some (.cells [.int .i64 0, .slice none 0 0] 108) ∧ h2[h.size + 1]? = some (.cells [.int .i64 sg, .slice a2 m2 m2] 108) ∧
          Buf h.size h2 3 1 (.slice a2 m2 m2) (nvs (ds ++ [n % 10])) ∧ KeepB h h2 none ∧ blk (.slice a2 m2 m2) ≠ some h.size ∧ blk (.slice a2 m2 m2) ≠ some (h.size + 1)) → ∃ a : Nat × List Nat × Option Addr × Nat, (e 0 = .int .i64 (sg * (a.1 : Nat)) ∧ e 2 = ptr h.size ∧ e 3 = ptr (h.size + 1) ∧ h2[h.size]? = some (.cells [.int .i64 0, .slice none 0 0] 108) ∧ h2[h.size + 1]? = some (.cells [.int .i64 sg, .slice a.2.2.1 a.2.2.2 a.2.2.2] 108) ∧
      Buf h.size h2 3 1 (.slice a.2.2.1 a.2.2.2 a.2.2.2) (nvs a.2.1) ∧ KeepB h h2 none ∧ blk (.slice a.2.2.1 a.2.2.2 a.2.2.2) ≠ some h.size ∧ blk (.slice a.2.2.1 a.2.2.2 a.2.2.2) ≠ some (h.size + 1) ∧ a.2.1 ++ digN a.1 = digN v.natAbs ∧ a.1 ≤ v.natAbs) ∧ a.1 < n := by
        rintro e h2 ⟨e0, e2, e3, a2, m2, r1, r2, r3, r4, r5, r6⟩
        exact ⟨(n / 10, ds ++ [n % 10], a2, m2), ⟨e0, e2, e3, r1, r2, r3, r4, r5, r6, by simp only [List.append_assoc, List.singleton_append]; exact hd, by simp only; omega⟩, by simp only; omega⟩
      by_cases htn : t < 0
      · have hnt := htt.1 htn
        repeat' (first
 | refine za ?_ | refine zb ?_ | refine zc ?_ | refine zd ?_ | refine ze ?_ | refine zf ?_ | refine zg ?_ | refine zh ?_ | (refine zi ?_; try refine RgD_plain rfl ?_) | refine w_drawn rfl ?_ | refine zj ?_ | refine zl ?_
 | ((first | apply zs | (apply zt; (focus rfl)) | (apply zu; (focus rfl)) | (apply zv; (focus rfl)) | apply zx | apply zy | apply zB | apply zC | apply zD | apply zE | apply zF); (focus ((conv => lhs; simp (disch := omega) [-env0_get, bound, List.getElem?_cons_zero, List.getElem?_cons_succ, odt, odf, oip, oin, obt, obf, ont, onf, wrapI, owu, ow8, ow32, otd, oe0, oe1, oe2, oe3, oe4, oe5, oe6, otn, ot1, ot2, ot4, d0, d2, d3, ht, hnt]); first | done | rfl)); first | apply zk | (apply zn; (focus rfl); try (focus (first | rfl | (simp [d0, d2, d3, ht, hnt]; done)))) | (apply zo; (focus rfl)) | apply gv_u | apply gv_tt | apply gv_ff | apply gv_ft | apply gv_tf | (apply gv_split <;> intro hc <;> try simp only [decide_eq_true_eq, decide_eq_false_iff_not, beq_iff_eq, beq_eq_false_iff_ne, bne_iff_ne, bne_eq_false_iff_eq, Bool.not_true, Bool.not_false, ne_eq] at hc))
 | (simp (disch := omega) only [thenQ_normal, thenQ_exit, thenQ_ret, blockQ_normal, blockQ_ret, blockQ_exit_same, blockQ_exit_ne]))
        refine (tl _ ?_ ?_ ?_ ?_).mono fun ex e h2 hq => ?_
        · simp [d0]
        · simp [d2]
        · simp [d3]
        · simp
        · obtain ⟨rfl, hq⟩ := hq
          exact fin e h2 hq
      · have hnt := htt.2 htn
        repeat' (first
 | refine za ?_ | refine zb ?_ | refine zc ?_ | refine zd ?_ | refine ze ?_ | refine zf ?_ | refine zg ?_ | refine zh ?_ | (refine zi ?_; try refine RgD_plain rfl ?_) | refine w_drawn rfl ?_ | refine zj ?_ | refine zl ?_
 | ((first | apply zs | (apply zt; (focus rfl)) | (apply zu; (focus rfl)) | (apply zv; (focus rfl)) | apply zx | apply zy | apply zB | apply zC | apply zD | apply zE | apply zF); (focus ((conv => lhs; simp (disch := omega) [-env0_get, bound, List.getElem?_cons_zero, List.getElem?_cons_succ, odt, odf, oip, oin, obt, obf, ont, onf, wrapI, owu, ow8, ow32, otd, oe0, oe1, oe2, oe3, oe4, oe5, oe6, otn, ot1, ot2, ot4, d0, d2, d3, ht, hnt]); first | done | rfl)); first | apply zk | (apply zn; (focus rfl); try (focus (first | rfl | (simp [d0, d2, d3, ht, hnt]; done)))) | (apply zo; (focus rfl)) | apply gv_u | apply gv_tt | apply gv_ff | apply gv_ft | apply gv_tf | (apply gv_split <;> intro hc <;> try simp only [decide_eq_true_eq, decide_eq_false_iff_not, beq_iff_eq, beq_eq_false_iff_ne, bne_iff_ne, bne_eq_false_iff_eq, Bool.not_true, Bool.not_false, ne_eq] at hc))
 | (simp (disch := omega) only [thenQ_normal, thenQ_exit, thenQ_ret, blockQ_normal, blockQ_ret, blockQ_exit_same, blockQ_exit_ne]))
        refine (tl _ ?_ ?_ ?_ ?_).mono fun ex e h2 hq => ?_
        · simp [d0]
        · simp [d2]
        · simp [d3]
        · simp
        · obtain ⟨rfl, hq⟩ := hq
          exact fin e h2 hq
  by_cases hv0 : v < 0
  · rw [if_pos hv0] at hsg
    subst hsg
    repeat' (first
 | refine za ?_ | refine zb ?_ | refine zc ?_ | refine zd ?_ | refine ze ?_ | refine zf ?_ | refine zg ?_ | refine zh ?_ | (refine zi ?_; try refine RgD_plain rfl ?_) | refine w_drawn rfl ?_ | refine zj ?_ | refine zl ?_
 | ((first | apply zs | (apply zt; (focus rfl)) | (apply zu; (focus rfl)) | (apply zv; (focus rfl)) | apply zx | apply zy | apply zB | apply zC | apply zD | apply zE | apply zF); (focus ((conv => lhs; simp (disch := omega) [-env0_get, bound, List.getElem?_cons_zero, List.getElem?_cons_succ, odt, odf, oip, oin, obt, obf, ont, onf, wrapI, owu, ow8, ow32, otd, oe0, oe1, oe2, oe3, oe4, oe5, oe6, otn, ot1, ot2, ot4, sgI]); first | done | rfl)); first | apply zk | (apply zn; (focus rfl); try (focus (first | rfl | (simp [sgI]; done)))) | (apply zo; (focus rfl)) | apply gv_u | apply gv_tt | apply gv_ff | apply gv_ft | apply gv_tf | (apply gv_split <;> intro hc <;> try simp only [decide_eq_true_eq, decide_eq_false_iff_not, beq_iff_eq, beq_eq_false_iff_ne, bne_iff_ne, bne_eq_false_iff_eq, Bool.not_true, Bool.not_false, ne_eq] at hc))
 | (simp (disch := omega) only [thenQ_normal, thenQ_exit, thenQ_ret, blockQ_normal, blockQ_ret, blockQ_exit_same, blockQ_exit_ne]))
    refine main _ ?_ ?_ ?_ <;> simp
  · rw [if_neg hv0] at hsg
    subst hsg
    repeat' (first
 | refine za ?_ | refine zb ?_ | refine zc ?_ | refine zd ?_ | refine ze ?_ | refine zf ?_ | refine zg ?_ | refine zh ?_ | (refine zi ?_; try refine RgD_plain rfl ?_) | refine w_drawn rfl ?_ | refine zj ?_ | refine zl ?_
 | ((first | apply zs | (apply zt; (focus rfl)) | (apply zu; (focus rfl)) | (apply zv; (focus rfl)) | apply zx | apply zy | apply zB | apply zC | apply zD | apply zE | apply zF); (focus ((conv => lhs; simp (disch := omega) [-env0_get, bound, List.getElem?_cons_zero, List.getElem?_cons_succ, odt, odf, oip, oin, obt, obf, ont, onf, wrapI, owu, ow8, ow32, otd, oe0, oe1, oe2, oe3, oe4, oe5, oe6, otn, ot1, ot2, ot4, sgI]); first | done | rfl)); first | apply zk | (apply zn; (focus rfl); try (focus (first | rfl | (simp [sgI]; done)))) | (apply zo; (focus rfl)) | apply gv_u | apply gv_tt | apply gv_ff | apply gv_ft | apply gv_tf | (apply gv_split <;> intro hc <;> try simp only [decide_eq_true_eq, decide_eq_false_iff_not, beq_iff_eq, beq_eq_false_iff_ne, bne_iff_ne, bne_eq_false_iff_eq, Bool.not_true, Bool.not_false, ne_eq] at hc))
 | (simp (disch := omega) only [thenQ_normal, thenQ_exit, thenQ_ret, blockQ_normal, blockQ_ret, blockQ_exit_same, blockQ_exit_ne]))
    refine main _ ?_ ?_ ?_ <;> simp
end Go.Proofs.Ytlgbeekhaoiggaa
end

section
namespace Go.Proofs.Ytlgbeekhaoiggaa
open Go.AM
set_option maxHeartbeats 4000000
variable {f : Nat} {h : Heap}
theorem digN_9 : ∀ (n d : Nat), d ∈ digN n → d ≤ 9 := by
  intro n
  induction n using Nat.strongRecOn with
  | _ n ih =>
    intro d hd
    by_cases h0 : n = 0
    · rw [h0, digN_zero] at hd; simp at hd
    · rw [digN_pos h0] at hd
      rcases List.mem_cons.1 hd with rfl | q
      · omega
      · exact ih (n / 10) (by omega) d q
def chD (d : Nat) : UInt8 := UInt8.ofNat (48 + d)
theorem ten {d : Nat} (hd : d ≤ 9) : (List.take (d + 1) [48, 49, 50, 51, 52, 53, 54, 55, 56, 57]).drop d = [chD d] := by
  have : d = 0 ∨ d = 1 ∨ d = 2 ∨ d = 3 ∨ d = 4 ∨ d = 5 ∨ d = 6 ∨ d = 7 ∨ d = 8 ∨ d = 9 := by omega
  rcases this with rfl | rfl | rfl | rfl | rfl | rfl | rfl | rfl | rfl | rfl <;> rfl
theorem ten' {d : Nat} (hd : d ≤ 9) : (⟨#[48, 49, 50, 51, 52, 53, 54, 55, 56, 57]⟩ : ByteArray).extract d (d + 1) = ⟨#[chD d]⟩ := by
  have := ba_extract [48, 49, 50, 51, 52, 53, 54, 55, 56, 57] d (d + 1)
  rw [ten hd] at this
  exact this
theorem satT_dig {v : Int} (h0 : v ≠ 0) : satT v = (if v < 0 then [45] else []) ++ ((digN v.natAbs).map chD).reverse := by
  unfold satT; rw [← digN_digR _ (by omega)]; rfl
theorem bigText_runs {v : Int} (hv : okI v) : Runs X ⟨f, []⟩ 57 [.int .i64 v] h (sv (satT v)) h := by
  refine Runs_of rfl f57_is ?_
  simp only [f57r0, f57r1, f57r2, f57r3, f57r4, f57r5, f57r6, f57l7, f57r8, f57r9, f57r10, f57r11, f57r12, f57b]
  have hdl := digN_len 20 v.natAbs (by unfold okI at hv; omega)
  obtain ⟨D, hD⟩ : ∃ D, digN v.natAbs = D := ⟨_, rfl⟩
  have h9 : ∀ d ∈ D, d ≤ 9 := fun d hd => digN_9 v.natAbs d (by rw [hD]; exact hd)
  rw [hD] at hdl
  have hsz : h.size ≤ h.size := Nat.le_refl _
  repeat' (first
 | refine za ?_ | refine zb ?_ | refine zc ?_ | refine zd ?_ | refine ze ?_ | refine zf ?_ | refine zg ?_ | refine zh ?_ | (refine zi ?_; try refine RgD_plain rfl ?_) | refine w_drawn rfl ?_ | refine zj ?_ | refine zl ?_
 | ((first | apply zs | (apply zt; (focus rfl)) | (apply zu; (focus rfl)) | (apply zv; (focus rfl)) | apply zx | apply zy | apply zB | apply zC | apply zD | apply zE | apply zF); (focus ((conv => lhs; simp (disch := omega) [-env0_get, bound, List.getElem?_cons_zero, List.getElem?_cons_succ, odt, odf, oip, oin, obt, obf, ont, onf, wrapI, owu, ow8, ow32, otd, oe0, oe1, oe2, oe3, oe4, oe5, oe6, otn, ot1, ot2, ot4]); first | done | rfl)); first | apply zk | (apply zn; (focus rfl); try (focus (first | rfl | (simp; done)))) | (apply zo; (focus rfl)) | apply gv_u | apply gv_tt | apply gv_ff | apply gv_ft | apply gv_tf | (apply gv_split <;> intro hc <;> try simp only [decide_eq_true_eq, decide_eq_false_iff_not, beq_iff_eq, beq_eq_false_iff_ne, bne_iff_ne, bne_eq_false_iff_eq, Bool.not_true, Bool.not_false, ne_eq] at hc))
 | (simp (disch := omega) only [thenQ_normal, thenQ_exit, thenQ_ret, blockQ_normal, blockQ_ret, blockQ_exit_same, blockQ_exit_ne]))
  (apply zW; (focus ((conv => lhs; simp (disch := omega) [-env0_get, bound, List.getElem?_cons_zero, List.getElem?_cons_succ, odt, odf, oip, oin, obt, obf, ont, onf, wrapI, owu, ow8, ow32, otd, oe0, oe1, oe2, oe3, oe4, oe5, oe6, otn, ot1, ot2, ot4]); first | done | rfl)); (focus exact (bigOf_R hv))); intro v1 h1 q1
  obtain ⟨w, rfl, k1, r1⟩ := q1
  rw [hD] at r1
  obtain ⟨a, c, rfl⟩ := r1.form
  have s1 := k1.1
  repeat' (first
 | refine za ?_ | refine zb ?_ | refine zc ?_ | refine zd ?_ | refine ze ?_ | refine zf ?_ | refine zg ?_ | refine zh ?_ | (refine zi ?_; try refine RgD_plain rfl ?_) | refine w_drawn rfl ?_ | refine zj ?_ | refine zl ?_
 | ((first | apply zs | (apply zt; (focus rfl)) | (apply zu; (focus rfl)) | (apply zv; (focus rfl)) | apply zx | apply zy | apply zB | apply zC | apply zD | apply zE | apply zF); (focus ((conv => lhs; simp (disch := omega) [-env0_get, bound, List.getElem?_cons_zero, List.getElem?_cons_succ, odt, odf, oip, oin, obt, obf, ont, onf, wrapI, owu, ow8, ow32, otd, oe0, oe1, oe2, oe3, oe4, oe5, oe6, otn, ot1, ot2, ot4]); first | done | rfl)); first | apply zk | (apply zn; (focus rfl); try (focus (first | rfl | (simp; done)))) | (apply zo; (focus rfl)) | apply gv_u | apply gv_tt | apply gv_ff | apply gv_ft | apply gv_tf | (apply gv_split <;> intro hc <;> try simp only [decide_eq_true_eq, decide_eq_false_iff_not, beq_iff_eq, beq_eq_false_iff_ne, bne_iff_ne, bne_eq_false_iff_eq, Bool.not_true, Bool.not_false, ne_eq] at hc))
 | (simp (disch := omega) only [thenQ_normal, thenQ_exit, thenQ_ret, blockQ_normal, blockQ_ret, blockQ_exit_same, blockQ_exit_ne]))
  refine w_loop (A := Nat) (fun i env h' => env 3 = ptr h1.size ∧ env 4 = sv (((D.take i).map chD).reverse) ∧ env 5 = .int .i64 (i : Nat) ∧ i ≤ D.length ∧ h' = h1.push (.cells [.int .i64 (sgI v), .slice a D.length c] 108)) (fun i => D.length - i) (a0 := 0) ⟨by simp, by simp, by simp, by omega, by simp⟩ ?_
  rintro i env h' ⟨e3, e4, e5, hi, hh⟩
  have g3 : h'.cellsAt h1.size = some [.int .i64 (sgI v), .slice a D.length c] := by rw [hh]; exact cellsAt_of (e := 108) (by simp)
  have hs' : h'.size = h1.size + 1 := by rw [hh]; simp
  by_cases hlt : i < D.length
  · have r2 := r1.push (.cells [.int .i64 (sgI v), .slice a D.length c] 108)
    rw [← hh] at r2
    obtain ⟨b, o, c', cs, e, hb, hcs, hga⟩ := NRow.get r2 (by omega)
    cases e
    obtain ⟨d, hd⟩ : ∃ d, D[i]? = some d := ⟨_, List.getElem?_eq_getElem hlt⟩
    have hg := hga i d hd
    have hd9 := h9 d (List.mem_of_getElem? hd)
    have hx := ten' hd9
    have htk : D.take (i + 1) = D.take i ++ [d] := by rw [List.take_add_one, hd]; rfl
    have hln : (((D.take i).map chD).reverse).length ≤ 20 := by simp; omega
    obtain ⟨S, hS⟩ : ∃ S, ((D.take i).map chD).reverse = S := ⟨_, rfl⟩
    rw [hS] at e4 hln
    repeat' (first
 | refine za ?_ | refine zb ?_ | refine zc ?_ | refine zd ?_ | refine ze ?_ | refine zf ?_ | refine zg ?_ | refine zh ?_ | (refine zi ?_; try refine RgD_plain rfl ?_) | refine w_drawn rfl ?_ | refine zj ?_ | refine zl ?_
 | ((first | apply zs | (apply zt; (focus rfl)) | (apply zu; (focus rfl)) | (apply zv; (focus rfl)) | apply zx | apply zy | apply zB | apply zC | apply zD | apply zE | apply zF); (focus ((conv => lhs; simp (disch := omega) [-env0_get, bound, List.getElem?_cons_zero, List.getElem?_cons_succ, odt, odf, oip, oin, obt, obf, ont, onf, wrapI, owu, ow8, ow32, otd, oe0, oe1, oe2, oe3, oe4, oe5, oe6, otn, ot1, ot2, ot4, e3, e4, e5, g3, hcs, hg, hx, binS]); first | done | rfl)); first | apply zk | (apply zn; (focus rfl); try (focus (first | rfl | (simp [e3, e4, e5, g3, hcs, hg, hx, binS]; done)))) | (apply zo; (focus rfl)) | apply gv_u | apply gv_tt | apply gv_ff | apply gv_ft | apply gv_tf | (apply gv_split <;> intro hc <;> try simp only [decide_eq_true_eq, decide_eq_false_iff_not, beq_iff_eq, beq_eq_false_iff_ne, bne_iff_ne, bne_eq_false_iff_eq, Bool.not_true, Bool.not_false, ne_eq] at hc))
 | (simp (disch := omega) only [thenQ_normal, thenQ_exit, thenQ_ret, blockQ_normal, blockQ_ret, blockQ_exit_same, blockQ_exit_ne]))
    refine ⟨i + 1, ⟨by simp [e3], ?_, by simp, by omega, hh⟩, by omega⟩
    rw [htk, List.map_append, List.reverse_append, hS]
    have q := ten hd9
    rw [List.take_succ_cons] at q
    simp [q]
  · have hil : i = D.length := by omega
    rw [hil, List.take_of_length_le (Nat.le_refl _)] at e4
    have hln : ((D.map chD).reverse).length ≤ 20 := by simp; omega
    by_cases hv0 : v = 0
    · have hsg : sgI v = 0 := by rw [hv0]; rfl
      have e : satT v = [48] := by rw [hv0]; unfold satT; rw [digR_small (by decide)]; rfl
      rw [e]
      rw [hsg] at g3
      obtain ⟨S, hS⟩ : ∃ S, (D.map chD).reverse = S := ⟨_, rfl⟩
      rw [hS] at e4 hln
      repeat' (first
 | refine za ?_ | refine zb ?_ | refine zc ?_ | refine zd ?_ | refine ze ?_ | refine zf ?_ | refine zg ?_ | refine zh ?_ | (refine zi ?_; try refine RgD_plain rfl ?_) | refine w_drawn rfl ?_ | refine zj ?_ | refine zl ?_
 | ((first | apply zs | (apply zt; (focus rfl)) | (apply zu; (focus rfl)) | (apply zv; (focus rfl)) | apply zx | apply zy | apply zB | apply zC | apply zD | apply zE | apply zF); (focus ((conv => lhs; simp (disch := omega) [-env0_get, bound, List.getElem?_cons_zero, List.getElem?_cons_succ, odt, odf, oip, oin, obt, obf, ont, onf, wrapI, owu, ow8, ow32, otd, oe0, oe1, oe2, oe3, oe4, oe5, oe6, otn, ot1, ot2, ot4, e3, e4, e5, g3, hil, binS]); first | done | rfl)); first | apply zk | (apply zn; (focus rfl); try (focus (first | rfl | (simp [e3, e4, e5, g3, hil, binS]; done)))) | (apply zo; (focus rfl)) | apply gv_u | apply gv_tt | apply gv_ff | apply gv_ft | apply gv_tf | (apply gv_split <;> intro hc <;> try simp only [decide_eq_true_eq, decide_eq_false_iff_not, beq_iff_eq, beq_eq_false_iff_ne, bne_iff_ne, bne_eq_false_iff_eq, Bool.not_true, Bool.not_false, ne_eq] at hc))
 | (simp (disch := omega) only [thenQ_normal, thenQ_exit, thenQ_ret, blockQ_normal, blockQ_ret, blockQ_exit_same, blockQ_exit_ne]))
    · have e := satT_dig hv0
      rw [hD] at e
      rw [e]
      obtain ⟨S, hS⟩ : ∃ S, (D.map chD).reverse = S := ⟨_, rfl⟩
      rw [hS] at e4 hln ⊢
      by_cases hv1 : v < 0
      · have hsg : sgI v = -1 := by unfold sgI; rw [if_pos hv1]
        rw [hsg] at g3
        rw [if_pos hv1]
        repeat' (first
 | refine za ?_ | refine zb ?_ | refine zc ?_ | refine zd ?_ | refine ze ?_ | refine zf ?_ | refine zg ?_ | refine zh ?_ | (refine zi ?_; try refine RgD_plain rfl ?_) | refine w_drawn rfl ?_ | refine zj ?_ | refine zl ?_
 | ((first | apply zs | (apply zt; (focus rfl)) | (apply zu; (focus rfl)) | (apply zv; (focus rfl)) | apply zx | apply zy | apply zB | apply zC | apply zD | apply zE | apply zF); (focus ((conv => lhs; simp (disch := omega) [-env0_get, bound, List.getElem?_cons_zero, List.getElem?_cons_succ, odt, odf, oip, oin, obt, obf, ont, onf, wrapI, owu, ow8, ow32, otd, oe0, oe1, oe2, oe3, oe4, oe5, oe6, otn, ot1, ot2, ot4, e3, e4, e5, g3, hil, binS]); first | done | rfl)); first | apply zk | (apply zn; (focus rfl); try (focus (first | rfl | (simp [e3, e4, e5, g3, hil, binS]; done)))) | (apply zo; (focus rfl)) | apply gv_u | apply gv_tt | apply gv_ff | apply gv_ft | apply gv_tf | (apply gv_split <;> intro hc <;> try simp only [decide_eq_true_eq, decide_eq_false_iff_not, beq_iff_eq, beq_eq_false_iff_ne, bne_iff_ne, bne_eq_false_iff_eq, Bool.not_true, Bool.not_false, ne_eq] at hc))
 | (simp (disch := omega) only [thenQ_normal, thenQ_exit, thenQ_ret, blockQ_normal, blockQ_ret, blockQ_exit_same, blockQ_exit_ne]))
      · have hsg : sgI v = 1 := by unfold sgI; rw [if_neg hv1, if_neg hv0]
        rw [hsg] at g3
        rw [if_neg hv1]
        repeat' (first
 | refine za ?_ | refine zb ?_ | refine zc ?_ | refine zd ?_ | refine ze ?_ | refine zf ?_ | refine zg ?_ | refine zh ?_ | (refine zi ?_; try refine RgD_plain rfl ?_) | refine w_drawn rfl ?_ | refine zj ?_ | refine zl ?_
 | ((first | apply zs | (apply zt; (focus rfl)) | (apply zu; (focus rfl)) | (apply zv; (focus rfl)) | apply zx | apply zy | apply zB | apply zC | apply zD | apply zE | apply zF); (focus ((conv => lhs; simp (disch := omega) [-env0_get, bound, List.getElem?_cons_zero, List.getElem?_cons_succ, odt, odf, oip, oin, obt, obf, ont, onf, wrapI, owu, ow8, ow32, otd, oe0, oe1, oe2, oe3, oe4, oe5, oe6, otn, ot1, ot2, ot4, e3, e4, e5, g3, hil, binS]); first | done | rfl)); first | apply zk | (apply zn; (focus rfl); try (focus (first | rfl | (simp [e3, e4, e5, g3, hil, binS]; done)))) | (apply zo; (focus rfl)) | apply gv_u | apply gv_tt | apply gv_ff | apply gv_ft | apply gv_tf | (apply gv_split <;> intro hc <;> try simp only [decide_eq_true_eq, decide_eq_false_iff_not, beq_iff_eq, beq_eq_false_iff_ne, bne_iff_ne, bne_eq_false_iff_eq, Bool.not_true, Bool.not_false, ne_eq] at hc))
 | (simp (disch := omega) only [thenQ_normal, thenQ_exit, thenQ_ret, blockQ_normal, blockQ_ret, blockQ_exit_same, blockQ_exit_ne]))
theorem cutText2_runs {a b : Int} (hb : okI b) : Runs X ⟨f, []⟩ 94 [.agg #[.int .i64 a, .int .i64 b]] h (sv (cutT (a, b))) h := by
  refine Runs_of rfl f94_is ?_
  simp only [f94r0, f94r1, f94r2, f94r3, f94r4, f94r5, f94r6, f94b]
  by_cases h1 : negC a b
  · have hc := canon_neg (b := b) h1
    have e : cutT (a, b) = [45, 105, 110, 102] := by unfold cutT; rw [hc]; rfl
    rw [e]
    repeat' (first
 | refine za ?_ | refine zb ?_ | refine zc ?_ | refine zd ?_ | refine ze ?_ | refine zf ?_ | refine zg ?_ | refine zh ?_ | (refine zi ?_; try refine RgD_plain rfl ?_) | refine w_drawn rfl ?_ | refine zj ?_ | refine zl ?_
 | ((first | apply zs | (apply zt; (focus rfl)) | (apply zu; (focus rfl)) | (apply zv; (focus rfl)) | apply zw | apply zx | apply zy | apply zB | apply zC | apply zD | apply zE | apply zF); (focus ((conv => lhs; simp (disch := omega) [-env0_get, bound, List.getElem?_cons_zero, List.getElem?_cons_succ, odt, odf, oip, oin, obt, obf, ont, onf, wrapI, owu, ow8, ow32, otd, oe0, oe1, oe2, oe3, oe4, oe5, oe6, otn, ot1, ot2, ot4, hc]); first | done | rfl)); first | apply zk | (apply zn; (focus rfl); try (focus (first | rfl | (simp [hc]; done)))) | (apply zo; (focus rfl)) | apply gv_u | apply gv_tt | apply gv_ff | apply gv_ft | apply gv_tf | (apply gv_split <;> intro hc <;> try simp only [decide_eq_true_eq, decide_eq_false_iff_not, beq_iff_eq, beq_eq_false_iff_ne, bne_iff_ne, bne_eq_false_iff_eq, Bool.not_true, Bool.not_false, ne_eq] at hc) | exact canon2_runs)
 | (simp (disch := omega) only [thenQ_normal, thenQ_exit, thenQ_ret, blockQ_normal, blockQ_ret, blockQ_exit_same, blockQ_exit_ne]))
  · by_cases h2 : 0 < a
    · have hc := canon_pos (b := b) h2
      have e : cutT (a, b) = [43, 105, 110, 102] := by unfold cutT; rw [hc]; rfl
      rw [e]
      repeat' (first
 | refine za ?_ | refine zb ?_ | refine zc ?_ | refine zd ?_ | refine ze ?_ | refine zf ?_ | refine zg ?_ | refine zh ?_ | (refine zi ?_; try refine RgD_plain rfl ?_) | refine w_drawn rfl ?_ | refine zj ?_ | refine zl ?_
 | ((first | apply zs | (apply zt; (focus rfl)) | (apply zu; (focus rfl)) | (apply zv; (focus rfl)) | apply zw | apply zx | apply zy | apply zB | apply zC | apply zD | apply zE | apply zF); (focus ((conv => lhs; simp (disch := omega) [-env0_get, bound, List.getElem?_cons_zero, List.getElem?_cons_succ, odt, odf, oip, oin, obt, obf, ont, onf, wrapI, owu, ow8, ow32, otd, oe0, oe1, oe2, oe3, oe4, oe5, oe6, otn, ot1, ot2, ot4, hc]); first | done | rfl)); first | apply zk | (apply zn; (focus rfl); try (focus (first | rfl | (simp [hc]; done)))) | (apply zo; (focus rfl)) | apply gv_u | apply gv_tt | apply gv_ff | apply gv_ft | apply gv_tf | (apply gv_split <;> intro hc <;> try simp only [decide_eq_true_eq, decide_eq_false_iff_not, beq_iff_eq, beq_eq_false_iff_ne, bne_iff_ne, bne_eq_false_iff_eq, Bool.not_true, Bool.not_false, ne_eq] at hc) | exact canon2_runs)
 | (simp (disch := omega) only [thenQ_normal, thenQ_exit, thenQ_ret, blockQ_normal, blockQ_ret, blockQ_exit_same, blockQ_exit_ne]))
    · have hc := (canon_mid h1 h2).1
      have e : cutT (a, b) = satT b := by unfold cutT; rw [hc]; simp
      rw [e]
      repeat' (first
 | refine za ?_ | refine zb ?_ | refine zc ?_ | refine zd ?_ | refine ze ?_ | refine zf ?_ | refine zg ?_ | refine zh ?_ | (refine zi ?_; try refine RgD_plain rfl ?_) | refine w_drawn rfl ?_ | refine zj ?_ | refine zl ?_
 | ((first | apply zs | (apply zt; (focus rfl)) | (apply zu; (focus rfl)) | (apply zv; (focus rfl)) | apply zw | apply zx | apply zy | apply zB | apply zC | apply zD | apply zE | apply zF); (focus ((conv => lhs; simp (disch := omega) [-env0_get, bound, List.getElem?_cons_zero, List.getElem?_cons_succ, odt, odf, oip, oin, obt, obf, ont, onf, wrapI, owu, ow8, ow32, otd, oe0, oe1, oe2, oe3, oe4, oe5, oe6, otn, ot1, ot2, ot4, hc]); first | done | rfl)); first | apply zk | (apply zn; (focus rfl); try (focus (first | rfl | (simp [hc]; done)))) | (apply zo; (focus rfl)) | apply gv_u | apply gv_tt | apply gv_ff | apply gv_ft | apply gv_tf | (apply gv_split <;> intro hc <;> try simp only [decide_eq_true_eq, decide_eq_false_iff_not, beq_iff_eq, beq_eq_false_iff_ne, bne_iff_ne, bne_eq_false_iff_eq, Bool.not_true, Bool.not_false, ne_eq] at hc) | exact canon2_runs | exact (bigText_runs hb))
 | (simp (disch := omega) only [thenQ_normal, thenQ_exit, thenQ_ret, blockQ_normal, blockQ_ret, blockQ_exit_same, blockQ_exit_ne]))
theorem boundText2_runs {s : Sp} (hs : okS s) : Runs X ⟨f, []⟩ 56 [spV s] h (sv (boundT s)) h := by
  obtain ⟨_, h2, _, h4⟩ := id hs
  rcases s with ⟨a, b, c, d⟩
  simp only at h2 h4
  have l1 := cutT_len (c := (a, b)) h2
  have l2 := cutT_len (c := (c, d)) h4
  refine Runs_of rfl f56_is ?_
  simp only [f56r0, f56r1, f56r2, f56r3, f56r4, f56r5, f56b]
  cases hr : rightS a b c d with
  | false =>
    have e : boundT ⟨a, b, c, d⟩ = [] := by unfold boundT; simp only [hr]; rfl
    rw [e]
    repeat' (first
 | refine za ?_ | refine zb ?_ | refine zc ?_ | refine zd ?_ | refine ze ?_ | refine zf ?_ | refine zg ?_ | refine zh ?_ | (refine zi ?_; try refine RgD_plain rfl ?_) | refine w_drawn rfl ?_ | refine zj ?_ | refine zl ?_
 | ((first | apply zs | (apply zt; (focus rfl)) | (apply zu; (focus rfl)) | (apply zv; (focus rfl)) | apply zw | apply zx | apply zy | apply zB | apply zC | apply zD | apply zE | apply zF); (focus ((conv => lhs; simp (disch := omega) [-env0_get, bound, List.getElem?_cons_zero, List.getElem?_cons_succ, odt, odf, oip, oin, obt, obf, ont, onf, wrapI, owu, ow8, ow32, otd, oe0, oe1, oe2, oe3, oe4, oe5, oe6, otn, ot1, ot2, ot4, hr, spV]); first | done | rfl)); first | apply zk | (apply zn; (focus rfl); try (focus (first | rfl | (simp [hr, spV]; done)))) | (apply zo; (focus rfl)) | apply gv_u | apply gv_tt | apply gv_ff | apply gv_ft | apply gv_tf | (apply gv_split <;> intro hc <;> try simp only [decide_eq_true_eq, decide_eq_false_iff_not, beq_iff_eq, beq_eq_false_iff_ne, bne_iff_ne, bne_eq_false_iff_eq, Bool.not_true, Bool.not_false, ne_eq] at hc) | exact rightS2_runs)
 | (simp (disch := omega) only [thenQ_normal, thenQ_exit, thenQ_ret, blockQ_normal, blockQ_ret, blockQ_exit_same, blockQ_exit_ne]))
  | true =>
    have hcan : canon (a, b) = (a, b) := by
      have : rightC (a, b) = true := by unfold rightS at hr; simp only [Bool.and_eq_true] at hr; exact hr.1.1
      unfold rightC at this; simp only [Bool.and_eq_true, beq_iff_eq] at this; exact Prod.ext this.1 this.2
    by_cases h1 : a < 0
    · have hc := canon_neg (b := b) (.inl h1)
      rw [hcan] at hc
      injection hc with g1 g2
      subst g1 g2
      have e : boundT ⟨-1, 0, c, d⟩ = [40, 45, 105, 110, 102, 44] ++ cutT (c, d) ++ [41] := by unfold boundT; simp only [hr, and_self, if_true]; rfl
      rw [e]
      repeat' (first
 | refine za ?_ | refine zb ?_ | refine zc ?_ | refine zd ?_ | refine ze ?_ | refine zf ?_ | refine zg ?_ | refine zh ?_ | (refine zi ?_; try refine RgD_plain rfl ?_) | refine w_drawn rfl ?_ | refine zj ?_ | refine zl ?_
 | ((first | apply zs | (apply zt; (focus rfl)) | (apply zu; (focus rfl)) | (apply zv; (focus rfl)) | apply zw | apply zx | apply zy | apply zB | apply zC | apply zD | apply zE | apply zF); (focus ((conv => lhs; simp (disch := omega) [-env0_get, bound, List.getElem?_cons_zero, List.getElem?_cons_succ, odt, odf, oip, oin, obt, obf, ont, onf, wrapI, owu, ow8, ow32, otd, oe0, oe1, oe2, oe3, oe4, oe5, oe6, otn, ot1, ot2, ot4, hr, spV, binS]); first | done | rfl)); first | apply zk | (apply zn; (focus rfl); try (focus (first | rfl | (simp [hr, spV, binS]; done)))) | (apply zo; (focus rfl)) | apply gv_u | apply gv_tt | apply gv_ff | apply gv_ft | apply gv_tf | (apply gv_split <;> intro hc <;> try simp only [decide_eq_true_eq, decide_eq_false_iff_not, beq_iff_eq, beq_eq_false_iff_ne, bne_iff_ne, bne_eq_false_iff_eq, Bool.not_true, Bool.not_false, ne_eq] at hc) | exact rightS2_runs | exact (cutText2_runs h4))
 | (simp (disch := omega) only [thenQ_normal, thenQ_exit, thenQ_ret, blockQ_normal, blockQ_ret, blockQ_exit_same, blockQ_exit_ne]))
    · have e : boundT ⟨a, b, c, d⟩ = [91] ++ cutT (a, b) ++ [44] ++ cutT (c, d) ++ [41] := by unfold boundT; simp only [hr]; rw [if_pos trivial, if_neg (by omega)]
      rw [e]
      repeat' (first
 | refine za ?_ | refine zb ?_ | refine zc ?_ | refine zd ?_ | refine ze ?_ | refine zf ?_ | refine zg ?_ | refine zh ?_ | (refine zi ?_; try refine RgD_plain rfl ?_) | refine w_drawn rfl ?_ | refine zj ?_ | refine zl ?_
 | ((first | apply zs | (apply zt; (focus rfl)) | (apply zu; (focus rfl)) | (apply zv; (focus rfl)) | apply zw | apply zx | apply zy | apply zB | apply zC | apply zD | apply zE | apply zF); (focus ((conv => lhs; simp (disch := omega) [-env0_get, bound, List.getElem?_cons_zero, List.getElem?_cons_succ, odt, odf, oip, oin, obt, obf, ont, onf, wrapI, owu, ow8, ow32, otd, oe0, oe1, oe2, oe3, oe4, oe5, oe6, otn, ot1, ot2, ot4, hr, spV, binS]); first | done | rfl)); first | apply zk | (apply zn; (focus rfl); try (focus (first | rfl | (simp [hr, spV, binS]; done)))) | (apply zo; (focus rfl)) | apply gv_u | apply gv_tt | apply gv_ff | apply gv_ft | apply gv_tf | (apply gv_split <;> intro hc <;> try simp only [decide_eq_true_eq, decide_eq_false_iff_not, beq_iff_eq, beq_eq_false_iff_ne, bne_iff_ne, bne_eq_false_iff_eq, Bool.not_true, Bool.not_false, ne_eq] at hc) | exact rightS2_runs | exact (cutText2_runs h2) | exact (cutText2_runs h4))
 | (simp (disch := omega) only [thenQ_normal, thenQ_exit, thenQ_ret, blockQ_normal, blockQ_ret, blockQ_exit_same, blockQ_exit_ne]))
end Go.Proofs.Ytlgbeekhaoiggaa
end
