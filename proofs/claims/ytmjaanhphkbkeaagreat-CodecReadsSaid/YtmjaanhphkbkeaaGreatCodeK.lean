import Derived.Test.YtmjaanhphkbkeaaGreatCodeJ
set_option linter.all false
section
namespace Go.Proofs.YtmjaanhphkbkeaaGreat
open Go.AM
set_option linter.unusedSimpArgs false
set_option linter.unusedVariables false
variable {f : Nat} {h : Heap}
/-- what 'add' of imap.Tidy leaves -/
def Added (f : Nat) (h : Heap) (po : Nat) (w : Value) (l : List Sg) (h' : Heap) : Prop := ∃ w', h'[po]? = some (.cells [w'] 24) ∧ Buf f h' 58 5 w' (elems sgC l) ∧ (blk w' = blk w ∨ ∃ b, blk w' = some b ∧ h.size ≤ b) ∧ h.size ≤ h'.size ∧ ∀ y, y < h.size → y ≠ po → blk w ≠ some y → h'[y]? = h[y]?
theorem added_append {po : Nat} {w : Value} {out : List Sg} {x : Sg} {h2 : Heap} {v2 : Value} (hpo : h[po]? = some (.cells [w] 24)) (hb : Buf f h 58 5 w (elems sgC out)) (hne : blk w ≠ some po)
    (a2 : Buf f h2 58 5 v2 (elems sgC out ++ sgC x)) (a3 : KeepB ((h.push (.cells (sgC x) 58)).push (.cells (sgC x) 58)) h2 (blk w)) (a4 : blk v2 = some (h.size + 1 + 1)) :
    Added f h po w (out ++ [x]) (h2.setIfInBounds po (.cells [v2] 24)) := by
  have hpl := (Array.getElem?_eq_some_iff.1 hpo).1
  have hs := a3.1
  simp at hs
  refine ⟨v2, by rw [Array.getElem?_setIfInBounds, if_pos rfl, if_pos (by omega)], ?_, .inr ⟨_, a4, by omega⟩, by simp; omega, fun y hy h1 h2' => ?_⟩
  · refine Buf.keep (h := h2) (x := some po) (by simpa using a2) ((KeepB.refl h2 _).set _ (.inr rfl)) (.inr ?_)
    rw [a4]; simp; omega
  · rw [Array.getElem?_setIfInBounds, if_neg (fun q => h1 q.symm), a3.2 y (by simp; omega) h2', Array.getElem?_push, if_neg (by simp; omega), Array.getElem?_push, if_neg (by omega)]
set_option maxHeartbeats 4000000 in
theorem add_runs {po pr : Nat} {w : Value} {out : List Sg} {x : Sg} {st z : Int} {ab : Bool} (hpo : h[po]? = some (.cells [w] 24)) (hfp : f ≤ po) (hpr : h.cellsAt pr = some [.int .i64 st, .bool ab, .int .i64 z]) (hb : Buf f h 58 5 w (elems sgC out)) (hl : out.length ≤ 100000)
    (hpp : pr ≠ po) (hprl : pr < h.size) (hne : blk w ≠ some po) (hnr : blk w ≠ some pr) (ht : ∀ o y, out = o ++ [y] → touchS y.s.a y.s.b y.s.c y.s.d x.s.a x.s.b x.s.c x.s.d = (y.s.c == x.s.a && y.s.d == x.s.b)) :
    callR X ⟨f, []⟩ 63 [.agg #[.int .i64 x.s.a, .int .i64 x.s.b, .int .i64 x.s.c, .int .i64 x.s.d, .int .i64 x.v], .pointer (some ⟨po, 0, none⟩), .pointer (some ⟨pr, 0, none⟩)] h fun _ h' => Added f h po w (addS st out x) h' := by
  refine callR_of rfl f63_is ?_
  simp only [f63r0, f63r1, f63r2, f63r3, f63r4, f63b]
  have hpl := (Array.getElem?_eq_some_iff.1 hpo).1
  have hcp : h.cellsAt po = some [w] := by unfold Heap.cellsAt; rw [hpo]
  have n1 : ¬ po = h.size := by omega
  have n2 : ¬ pr = h.size := by omega
  have n3 : ¬ po = h.size + 1 := by omega
  rcases snoc_cases out with hnil | ⟨ol, y, hsn⟩
  · subst hnil
    have hrow : Row h 58 5 w 0 (elems sgC []) := hb.row (by omega) rfl
    obtain ⟨aw, cw, rfl⟩ := hrow.form
    have w3 : IntKind.i64.wrap (-1) = -1 := by decide
    repeat (first
 | refine za ?_ | refine zb ?_ | refine zc ?_ | refine zd ?_ | refine ze ?_ | refine zf ?_ | refine zg ?_ | refine zh ?_ | (refine zi ?_; try refine RgD_plain rfl ?_) | refine w_drawn rfl ?_ | refine zj ?_ | refine zl ?_
 | ((first | apply zs | (apply zt; (focus rfl)) | (apply zu; (focus rfl)) | (apply zv; (focus rfl)) | apply zx | apply zy | apply zB | apply zC | apply zD | apply zE | apply zF); (focus ((conv => lhs; simp [hcp, hpr, n1, n2, n3, w3]); first | done | rfl)); first | apply zk | (apply zn; (focus rfl); try (focus (first | rfl | (simp [hcp, hpr, n1, n2, n3, w3]; done)))) | (apply zo; (focus rfl)) | apply gv_u | apply gv_tt | apply gv_ff | apply gv_ft | apply gv_tf))
    obtain ⟨v2, h2, a1, a2, a3, a4⟩ := append_buf (by_ := 40) (n := 0) (m := 1) (x := .slice (some ⟨h.size + 1, 0, none⟩) 1 1) (l2 := sgC x) (by omega) (by simp; omega) (((hb.push (.cells (sgC x) 58)).push (.cells (sgC x) 58))) (by simp [srcCells, sgC]) (by omega) (by rw [elems_len sgC_len]; simp) (elems_sg_one _) rfl (by omega) (by omega) rfl
    refine w_mem (v := v2) (h' := h2) rfl (by simpa [sgC] using a1) ?_
    have hs2 := a3.1
    simp at hs2
    have hpo2 : h2[po]? = some (.cells [.slice aw 0 cw] 24) := by rw [a3.2 po (by simp; omega) hne, Array.getElem?_push, if_neg (by simp; omega), Array.getElem?_push, if_neg (by omega), hpo]
    have hwp : ∀ off vs, wr ⟨f, []⟩ h2 po off vs = if f ≤ po ∧ vs.all one = true ∧ off + vs.length ≤ 1 then some (h2.setIfInBounds po (.cells (putAt [.slice aw 0 cw] off vs) 24)) else none := fun off vs => by rw [wr_def hpo2]; rfl
    have ho2 : one v2 = true := by rcases a2 with ⟨q, _⟩ | ⟨_, _, q, _⟩ <;> rw [q] <;> rfl
    have hc2 : v2.cells = #[v2] := by rcases a2 with ⟨q, _⟩ | ⟨_, _, q, _⟩ <;> rw [q] <;> rfl
    repeat (first
 | refine za ?_ | refine zb ?_ | refine zc ?_ | refine zd ?_ | refine ze ?_ | refine zf ?_ | refine zg ?_ | refine zh ?_ | (refine zi ?_; try refine RgD_plain rfl ?_) | refine w_drawn rfl ?_ | refine zj ?_ | refine zl ?_
 | ((first | apply zs | (apply zt; (focus rfl)) | (apply zu; (focus rfl)) | (apply zv; (focus rfl)) | apply zx | apply zy | apply zB | apply zC | apply zD | apply zE | apply zF); (focus ((conv => lhs; simp [hwp, ho2, hc2, hfp]); first | done | rfl)); first | apply zk | (apply zn; (focus rfl); try (focus (first | rfl | (simp [hwp, ho2, hc2, hfp]; done)))) | (apply zo; (focus rfl)) | apply gv_u | apply gv_tt | apply gv_ff | apply gv_ft | apply gv_tf))
    exact added_append (out := []) hpo hb hne a2 a3 (by rw [a4]; simp)
  · subst hsn
    obtain ⟨bw, n, rfl, hn, hbw, hcw, hbwl, hfw⟩ := hb.cell (by simp [sgC])
    rw [elems_len sgC_len] at hn
    have hn' : n = ol.length + 1 := by simp at hn; omega
    subst hn'
    have hl' : ol.length ≤ 100000 := by simp at hl; omega
    have w3 : IntKind.i64.wrap ((ol.length : Int) + 1 - 1) = ol.length := by rw [wrapI (by omega)]; omega
    have w4 : IntKind.i64.wrap (ol.length : Int) = ol.length := wrapI (by omega)
    have hlo : (ol.length : Int) < (ol.length : Int) + 1 := by omega
    have nb : ¬ bw = h.size := by omega
    obtain ⟨L, hL⟩ : ∃ L, L = elems sgC (ol ++ [y]) := ⟨_, rfl⟩
    have hyv : (elems sgC (ol ++ [y]))[ol.length * 5 + 4]? = some (.int .i64 y.v) := last_get (by omega)
    have hy1 : grab (elems sgC (ol ++ [y])) (ol.length * 5) 4 = some [.int .i64 y.s.a, .int .i64 y.s.b, .int .i64 y.s.c, .int .i64 y.s.d] := last_grab (p := 0) (m := 4) (by omega)
    have hap : ¬ mergeS st y x = true → addS st (ol ++ [y]) x = ol ++ [y] ++ [x] := fun q => by rw [addS_snoc, if_neg q]
    have htt := ht ol y rfl
    have hb0 := hb
    rw [← hL] at hbw hcw hyv hy1
    cases hst : (st == 0) with
    | false =>
      have hm : ¬ mergeS st y x = true := by simp [mergeS, hst]
      rw [hap hm]
      repeat (first
 | refine za ?_ | refine zb ?_ | refine zc ?_ | refine zd ?_ | refine ze ?_ | refine zf ?_ | refine zg ?_ | refine zh ?_ | (refine zi ?_; try refine RgD_plain rfl ?_) | refine w_drawn rfl ?_ | refine zj ?_ | refine zl ?_
 | ((first | apply zs | (apply zt; (focus rfl)) | (apply zu; (focus rfl)) | (apply zv; (focus rfl)) | apply zx | apply zy | apply zB | apply zC | apply zD | apply zE | apply zF); (focus ((conv => lhs; simp [hcp, hpr, n1, n2, n3, w3, w4, hlo, hst]); first | done | rfl)); first | apply zk | (apply zn; (focus rfl); try (focus (first | rfl | (simp [hcp, hpr, n1, n2, n3, w3, w4, hlo, hst]; done)))) | (apply zo; (focus rfl)) | apply gv_u | apply gv_tt | apply gv_ff | apply gv_ft | apply gv_tf))
      obtain ⟨v2, h2, a1, a2, a3, a4⟩ := append_buf (by_ := 40) (n := ol.length + 1) (m := 1) (x := .slice (some ⟨h.size + 1, 0, none⟩) 1 1) (l2 := sgC x) (by omega) (by simp; omega) (((hb0.push (.cells (sgC x) 58)).push (.cells (sgC x) 58))) (by simp [srcCells, sgC]) (by omega) (by rw [elems_len sgC_len]; simp) (elems_sg_one _) rfl (by omega) (by omega) rfl
      refine w_mem (v := v2) (h' := h2) rfl (by simpa [sgC] using a1) ?_
      have hs2 := a3.1
      simp at hs2
      have hpo2 : h2[po]? = some (.cells [.slice (some ⟨bw, 0, none⟩) (ol.length + 1) (ol.length + 1)] 24) := by rw [a3.2 po (by simp; omega) hne, Array.getElem?_push, if_neg (by simp; omega), Array.getElem?_push, if_neg (by omega), hpo]
      have hwp : ∀ off vs, wr ⟨f, []⟩ h2 po off vs = if f ≤ po ∧ vs.all one = true ∧ off + vs.length ≤ 1 then some (h2.setIfInBounds po (.cells (putAt [.slice (some ⟨bw, 0, none⟩) (ol.length + 1) (ol.length + 1)] off vs) 24)) else none := fun off vs => by rw [wr_def hpo2]; rfl
      have ho2 : one v2 = true := by rcases a2 with ⟨q, _⟩ | ⟨_, _, q, _⟩ <;> rw [q] <;> rfl
      have hc2 : v2.cells = #[v2] := by rcases a2 with ⟨q, _⟩ | ⟨_, _, q, _⟩ <;> rw [q] <;> rfl
      repeat (first
 | refine za ?_ | refine zb ?_ | refine zc ?_ | refine zd ?_ | refine ze ?_ | refine zf ?_ | refine zg ?_ | refine zh ?_ | (refine zi ?_; try refine RgD_plain rfl ?_) | refine w_drawn rfl ?_ | refine zj ?_ | refine zl ?_
 | ((first | apply zs | (apply zt; (focus rfl)) | (apply zu; (focus rfl)) | (apply zv; (focus rfl)) | apply zx | apply zy | apply zB | apply zC | apply zD | apply zE | apply zF); (focus ((conv => lhs; simp [hwp, ho2, hc2, hfp]); first | done | rfl)); first | apply zk | (apply zn; (focus rfl); try (focus (first | rfl | (simp [hwp, ho2, hc2, hfp]; done)))) | (apply zo; (focus rfl)) | apply gv_u | apply gv_tt | apply gv_ff | apply gv_ft | apply gv_tf))
      exact added_append (out := ol ++ [y]) hpo hb0 hne a2 a3 (by rw [a4]; simp)
    | true =>
      cases hvv : (y.v == x.v) with
      | false =>
        have hm : ¬ mergeS st y x = true := by simp [mergeS, hvv]
        rw [hap hm]
        repeat (first
 | refine za ?_ | refine zb ?_ | refine zc ?_ | refine zd ?_ | refine ze ?_ | refine zf ?_ | refine zg ?_ | refine zh ?_ | (refine zi ?_; try refine RgD_plain rfl ?_) | refine w_drawn rfl ?_ | refine zj ?_ | refine zl ?_
 | ((first | apply zs | (apply zt; (focus rfl)) | (apply zu; (focus rfl)) | (apply zv; (focus rfl)) | apply zx | apply zy | apply zB | apply zC | apply zD | apply zE | apply zF); (focus ((conv => lhs; simp [hcp, hpr, n1, n2, n3, nb, w3, w4, hlo, hst, hcw, hyv, hvv]); first | done | rfl)); first | apply zk | (apply zn; (focus rfl); try (focus (first | rfl | (simp [hcp, hpr, n1, n2, n3, nb, w3, w4, hlo, hst, hcw, hyv, hvv]; done)))) | (apply zo; (focus rfl)) | apply gv_u | apply gv_tt | apply gv_ff | apply gv_ft | apply gv_tf))
        obtain ⟨v2, h2, a1, a2, a3, a4⟩ := append_buf (by_ := 40) (n := ol.length + 1) (m := 1) (x := .slice (some ⟨h.size + 1, 0, none⟩) 1 1) (l2 := sgC x) (by omega) (by simp; omega) (((hb0.push (.cells (sgC x) 58)).push (.cells (sgC x) 58))) (by simp [srcCells, sgC]) (by omega) (by rw [elems_len sgC_len]; simp) (elems_sg_one _) rfl (by omega) (by omega) rfl
        refine w_mem (v := v2) (h' := h2) rfl (by simpa [sgC] using a1) ?_
        have hs2 := a3.1
        simp at hs2
        have hpo2 : h2[po]? = some (.cells [.slice (some ⟨bw, 0, none⟩) (ol.length + 1) (ol.length + 1)] 24) := by rw [a3.2 po (by simp; omega) hne, Array.getElem?_push, if_neg (by simp; omega), Array.getElem?_push, if_neg (by omega), hpo]
        have hwp : ∀ off vs, wr ⟨f, []⟩ h2 po off vs = if f ≤ po ∧ vs.all one = true ∧ off + vs.length ≤ 1 then some (h2.setIfInBounds po (.cells (putAt [.slice (some ⟨bw, 0, none⟩) (ol.length + 1) (ol.length + 1)] off vs) 24)) else none := fun off vs => by rw [wr_def hpo2]; rfl
        have ho2 : one v2 = true := by rcases a2 with ⟨q, _⟩ | ⟨_, _, q, _⟩ <;> rw [q] <;> rfl
        have hc2 : v2.cells = #[v2] := by rcases a2 with ⟨q, _⟩ | ⟨_, _, q, _⟩ <;> rw [q] <;> rfl
        repeat (first
 | refine za ?_ | refine zb ?_ | refine zc ?_ | refine zd ?_ | refine ze ?_ | refine zf ?_ | refine zg ?_ | refine zh ?_ | (refine zi ?_; try refine RgD_plain rfl ?_) | refine w_drawn rfl ?_ | refine zj ?_ | refine zl ?_
 | ((first | apply zs | (apply zt; (focus rfl)) | (apply zu; (focus rfl)) | (apply zv; (focus rfl)) | apply zx | apply zy | apply zB | apply zC | apply zD | apply zE | apply zF); (focus ((conv => lhs; simp [hwp, ho2, hc2, hfp]); first | done | rfl)); first | apply zk | (apply zn; (focus rfl); try (focus (first | rfl | (simp [hwp, ho2, hc2, hfp]; done)))) | (apply zo; (focus rfl)) | apply gv_u | apply gv_tt | apply gv_ff | apply gv_ft | apply gv_tf))
        exact added_append (out := ol ++ [y]) hpo hb0 hne a2 a3 (by rw [a4]; simp)
      | true =>
        cases hcc : (y.s.c == x.s.a && y.s.d == x.s.b) with
        | false =>
          have hm : ¬ mergeS st y x = true := by rw [mergeS, hcc]; simp
          rw [hap hm]
          rw [hcc] at htt
          repeat (first
 | refine za ?_ | refine zb ?_ | refine zc ?_ | refine zd ?_ | refine ze ?_ | refine zf ?_ | refine zg ?_ | refine zh ?_ | (refine zi ?_; try refine RgD_plain rfl ?_) | refine w_drawn rfl ?_ | refine zj ?_ | refine zl ?_
 | ((first | apply zs | (apply zt; (focus rfl)) | (apply zu; (focus rfl)) | (apply zv; (focus rfl)) | apply zw | apply zx | apply zy | apply zB | apply zC | apply zD | apply zE | apply zF); (focus ((conv => lhs; simp [hcp, hpr, n1, n2, n3, nb, w3, w4, hlo, hst, hcw, hyv, hvv, hy1, htt]); first | done | rfl)); first | apply zk | (apply zn; (focus rfl); try (focus (first | rfl | (simp [hcp, hpr, n1, n2, n3, nb, w3, w4, hlo, hst, hcw, hyv, hvv, hy1, htt]; done)))) | (apply zo; (focus rfl)) | apply gv_u | apply gv_tt | apply gv_ff | apply gv_ft | apply gv_tf | exact touch_runs))
          obtain ⟨v2, h2, a1, a2, a3, a4⟩ := append_buf (by_ := 40) (n := ol.length + 1) (m := 1) (x := .slice (some ⟨h.size + 1, 0, none⟩) 1 1) (l2 := sgC x) (by omega) (by simp; omega) (((hb0.push (.cells (sgC x) 58)).push (.cells (sgC x) 58))) (by simp [srcCells, sgC]) (by omega) (by rw [elems_len sgC_len]; simp) (elems_sg_one _) rfl (by omega) (by omega) rfl
          refine w_mem (v := v2) (h' := h2) rfl (by simpa [sgC] using a1) ?_
          have hs2 := a3.1
          simp at hs2
          have hpo2 : h2[po]? = some (.cells [.slice (some ⟨bw, 0, none⟩) (ol.length + 1) (ol.length + 1)] 24) := by rw [a3.2 po (by simp; omega) hne, Array.getElem?_push, if_neg (by simp; omega), Array.getElem?_push, if_neg (by omega), hpo]
          have hwp : ∀ off vs, wr ⟨f, []⟩ h2 po off vs = if f ≤ po ∧ vs.all one = true ∧ off + vs.length ≤ 1 then some (h2.setIfInBounds po (.cells (putAt [.slice (some ⟨bw, 0, none⟩) (ol.length + 1) (ol.length + 1)] off vs) 24)) else none := fun off vs => by rw [wr_def hpo2]; rfl
          have ho2 : one v2 = true := by rcases a2 with ⟨q, _⟩ | ⟨_, _, q, _⟩ <;> rw [q] <;> rfl
          have hc2 : v2.cells = #[v2] := by rcases a2 with ⟨q, _⟩ | ⟨_, _, q, _⟩ <;> rw [q] <;> rfl
          repeat (first
 | refine za ?_ | refine zb ?_ | refine zc ?_ | refine zd ?_ | refine ze ?_ | refine zf ?_ | refine zg ?_ | refine zh ?_ | (refine zi ?_; try refine RgD_plain rfl ?_) | refine w_drawn rfl ?_ | refine zj ?_ | refine zl ?_
 | ((first | apply zs | (apply zt; (focus rfl)) | (apply zu; (focus rfl)) | (apply zv; (focus rfl)) | apply zx | apply zy | apply zB | apply zC | apply zD | apply zE | apply zF); (focus ((conv => lhs; simp [hwp, ho2, hc2, hfp]); first | done | rfl)); first | apply zk | (apply zn; (focus rfl); try (focus (first | rfl | (simp [hwp, ho2, hc2, hfp]; done)))) | (apply zo; (focus rfl)) | apply gv_u | apply gv_tt | apply gv_ff | apply gv_ft | apply gv_tf))
          exact added_append (out := ol ++ [y]) hpo hb0 hne a2 a3 (by rw [a4]; simp)
        | true =>
          have hm : mergeS st y x = true := by rw [mergeS, hst, hvv, hcc]; rfl
          rw [addS_snoc, if_pos hm]
          rw [hcc] at htt
          have hwr : ∀ off vs, wr ⟨f, []⟩ h bw off vs = if f ≤ bw ∧ vs.all one = true ∧ off + vs.length ≤ L.length then some (h.setIfInBounds bw (.cells (putAt L off vs) 58)) else none := fun off vs => by rw [wr_def hbw]
          have hlen : ol.length * 5 + 2 + 2 ≤ L.length := by rw [hL, elems_len sgC_len]; simp; omega
          obtain ⟨L2, hL2⟩ : ∃ L, L = elems sgC (ol ++ [joined y x]) := ⟨_, rfl⟩
          have hput : putAt L (ol.length * 5 + 2) [.int .i64 x.s.c, .int .i64 x.s.d] = L2 := by
            have := last_put (o := ol) (y := y) (p := 2) (vs := [.int .i64 x.s.c, .int .i64 x.s.d])
            rw [hL, hL2, this]; simp [putAt, sgC, joined]
          simp at hput
          repeat (first
 | refine za ?_ | refine zb ?_ | refine zc ?_ | refine zd ?_ | refine ze ?_ | refine zf ?_ | refine zg ?_ | refine zh ?_ | (refine zi ?_; try refine RgD_plain rfl ?_) | refine w_drawn rfl ?_ | refine zj ?_ | refine zl ?_
 | ((first | apply zs | (apply zt; (focus rfl)) | (apply zu; (focus rfl)) | (apply zv; (focus rfl)) | apply zw | apply zx | apply zy | apply zB | apply zC | apply zD | apply zE | apply zF); (focus ((conv => lhs; simp [hcp, hpr, n1, n2, n3, nb, w3, w4, hlo, hst, hcw, hyv, hvv, hy1, htt, hwr, wr_push, hlen, hfw, hput]); first | done | rfl)); first | apply zk | (apply zn; (focus rfl); try (focus (first | rfl | (simp [hcp, hpr, n1, n2, n3, nb, w3, w4, hlo, hst, hcw, hyv, hvv, hy1, htt, hwr, wr_push, hlen, hfw, hput]; done)))) | (apply zo; (focus rfl)) | apply gv_u | apply gv_tt | apply gv_ff | apply gv_ft | apply gv_tf | exact touch_runs))
          have hbp : ¬ bw = po := fun q => hne (by rw [q]; rfl)
          refine ⟨_, ?_, ?_, .inl rfl, by simp, fun y hy h1 h2 => ?_⟩
          · rw [Array.getElem?_push, if_neg (by simp; omega), Array.getElem?_setIfInBounds, if_neg hbp, hpo]
          · refine .inr ⟨bw, ol.length + 1, rfl, by rw [elems_len sgC_len]; simp, ?_, hfw⟩
            rw [Array.getElem?_push, if_neg (by simp; omega), Array.getElem?_setIfInBounds, if_pos rfl, if_pos hbwl, hL2]
          · rw [Array.getElem?_push, if_neg (by simp; omega), Array.getElem?_setIfInBounds, if_neg (fun q => h2 (by rw [q]; rfl))]
end Go.Proofs.YtmjaanhphkbkeaaGreat
end

section
namespace Go.Proofs.YtmjaanhphkbkeaaGreat
open Go.AM
set_option linter.unusedSimpArgs false
set_option linter.unusedVariables false
variable {f : Nat} {h : Heap}
theorem lessC_le {a b c : Int × Int} (h1 : lessC a b = true) (h2 : lessC c b = false) : lessC a c = true := by
  unfold lessC at *
  generalize canon a = x at *; generalize canon b = y at *; generalize canon c = z at *
  by_cases e1 : x.1 = y.1 <;> by_cases e2 : z.1 = y.1 <;> by_cases e3 : x.1 = z.1 <;> simp_all <;> omega
def okTail (out rest : List Sg) : Prop := sortedFrom (out.getLast?.map (·.s)) (rest.map (·.s)) = true ∧ ∀ o y, out = o ++ [y] → y.s.right = true
theorem sortedFrom_cons {q : Option Sp} {s : Sp} {r : List Sp} : sortedFrom q (s :: r) = (s.right && (match q with | none => true | some q => !lessC (s.a, s.b) (q.c, q.d)) && sortedFrom (some s) r) := by
  cases q <;> rfl
theorem sorted_weak {q : Option Sp} {s : Sp} {r : List Sp} (h : sortedFrom q (s :: r) = true) : sortedFrom q r = true := by
  rw [sortedFrom_cons] at h
  simp only [Bool.and_eq_true] at h
  obtain ⟨⟨hs, hq⟩, hr⟩ := h
  cases r with
  | nil => cases q <;> rfl
  | cons t r =>
    rw [sortedFrom_cons] at hr ⊢
    simp only [Bool.and_eq_true] at hr ⊢
    refine ⟨⟨hr.1.1, ?_⟩, hr.2⟩
    cases q with
    | none => rfl
    | some q =>
      simp only [Bool.not_eq_true'] at hq hr ⊢
      cases hl : lessC (t.a, t.b) (q.c, q.d) with
      | false => rfl
      | true =>
        have h1 := lessC_le hl hq
        have h2 : lessC (s.a, s.b) (s.c, s.d) = true := by simp [Sp.right, rightS] at hs; exact hs.2
        have := lessC_trans h1 h2
        rw [hr.1.2] at this; cases this
theorem okTail_touch {o r : List Sg} {y x : Sg} (h : okTail (o ++ [y]) (x :: r)) : touchS y.s.a y.s.b y.s.c y.s.d x.s.a x.s.b x.s.c x.s.d = (y.s.c == x.s.a && y.s.d == x.s.b) := by
  obtain ⟨h1, h2⟩ := h
  simp only [List.getLast?_append, List.getLast?_singleton, Option.some_or, Option.map_some, List.map_cons] at h1
  rw [sortedFrom_cons] at h1
  simp only [Bool.and_eq_true, Bool.not_eq_true'] at h1
  exact touch_sorted (h2 o y rfl) h1.1.1 h1.1.2
theorem okTail_step {out r : List Sg} {x : Sg} {st z : Int} {ab : Bool} (h : okTail out (x :: r)) : okTail (tidyS st ab z out x) r := by
  obtain ⟨h1, h2⟩ := h
  have hw := sorted_weak h1
  have hx : x.s.right = true ∧ sortedFrom (some x.s) (r.map (·.s)) = true := by
    rw [List.map_cons, sortedFrom_cons] at h1
    simp only [Bool.and_eq_true] at h1
    exact ⟨h1.1.1, h1.2⟩
  have hone : okTail (out ++ [x]) r := by
    refine ⟨by simpa using hx.2, fun o y e => ?_⟩
    have := List.append_inj_right' e rfl
    simp at this; rw [← this]; exact hx.1
  unfold tidyS
  split
  · exact ⟨hw, h2⟩
  · rcases snoc_cases out with rfl | ⟨o, y, rfl⟩
    · exact hone
    · rw [addS_snoc]
      split
      · rename_i hm
        have hy := h2 o y rfl
        refine ⟨?_, fun o' y' e => ?_⟩
        · have e : sortedFrom (some (joined y x).s) (r.map (·.s)) = sortedFrom (some x.s) (r.map (·.s)) := by
            cases r with
            | nil => rfl
            | cons t r => rw [List.map_cons, sortedFrom_cons, sortedFrom_cons]; rfl
          simpa [e] using hx.2
        · have := List.append_inj_right' e rfl
          simp at this; rw [← this]
          simp [mergeS] at hm
          have hx1 := hx.1
          simp only [Sp.right, rightS, Bool.and_eq_true] at hy hx1 ⊢
          refine ⟨⟨hy.1.1, hx1.1.2⟩, ?_⟩
          have e1 : lessC (y.s.c, y.s.d) (x.s.c, x.s.d) = true := by rw [hm.2.2.1, hm.2.2.2]; exact hx1.2
          exact lessC_trans hy.2 e1
      · exact hone
set_option maxHeartbeats 4000000 in
theorem itidy_runs {v : Value} {xs : List Sg} {st z : Int} {ab : Bool} (hr : GRow h v xs) (hl : xs.length ≤ 100000) (hf : f ≤ h.size) :
    callR X ⟨f, []⟩ 48 [.agg #[.int .i64 st, .bool ab, .int .i64 z], v] h fun v' h' => KeepB h h' none ∧ Buf f h' 58 5 v' (elems sgC (tidy st ab z xs)) ∧ GRow h' v' (tidy st ab z xs) := by
  refine callR_of rfl f48_is ?_
  simp only [f48r0, f48r1, f48r2, f48r3, f48r4, f48r5, f48r6, f48r7, f48r8, f48r9, f48r10, f48l11, f48r12, f48b]
  obtain ⟨a, c, rfl⟩ := hr.form
  repeat (first
 | refine za ?_ | refine zb ?_ | refine zc ?_ | refine zd ?_ | refine ze ?_ | refine zf ?_ | refine zg ?_ | refine zh ?_ | (refine zi ?_; try refine RgD_plain rfl ?_) | refine w_drawn rfl ?_ | refine zj ?_ | refine zl ?_
 | ((first | apply zs | (apply zt; (focus rfl)) | (apply zu; (focus rfl)) | (apply zv; (focus rfl)) | apply zx | apply zy | apply zB | apply zC | apply zD | apply zE | apply zF); (focus ((conv => lhs; simp); first | done | rfl)); first | apply zk | (apply zn; (focus rfl); try (focus (first | rfl | (simp; done)))) | (apply zo; (focus rfl)) | apply gv_u | apply gv_tt | apply gv_ff | apply gv_ft | apply gv_tf))
  (apply zW; (focus ((conv => lhs; simp); first | done | rfl)); (focus exact ispans_runs (hr.push _) hl (by simp))); intro v' h' q
  obtain ⟨k1, b1, r1⟩ := q
  cases hso : sortedFrom none (xs.map (·.s)) with
  | false =>
    have e : tidy st ab z xs = [] := by simp [tidy, hso]
    rw [e]
    repeat (first
 | refine za ?_ | refine zb ?_ | refine zc ?_ | refine zd ?_ | refine ze ?_ | refine zf ?_ | refine zg ?_ | refine zh ?_ | (refine zi ?_; try refine RgD_plain rfl ?_) | refine w_drawn rfl ?_ | refine zj ?_ | refine zl ?_
 | ((first | apply zs | (apply zt; (focus rfl)) | (apply zu; (focus rfl)) | (apply zv; (focus rfl)) | apply zw | apply zx | apply zy | apply zB | apply zC | apply zD | apply zE | apply zF); (focus ((conv => lhs; simp [hso]); first | done | rfl)); first | apply zk | (apply zn; (focus rfl); try (focus (first | rfl | (simp [hso]; done)))) | (apply zo; (focus rfl)) | apply gv_u | apply gv_tt | apply gv_ff | apply gv_ft | apply gv_tf | exact (sorted_runs r1 (by simp <;> omega))))
    exact ⟨.refl _ _, .inl ⟨rfl, rfl⟩, Buf.row (f := 0) (.inl ⟨rfl, rfl⟩) (by omega) rfl⟩
  | true =>
    have e : tidy st ab z xs = xs.foldl (tidyS st ab z) [] := by simp [tidy, hso]
    rw [e]
    repeat (first
 | refine za ?_ | refine zb ?_ | refine zc ?_ | refine zd ?_ | refine ze ?_ | refine zf ?_ | refine zg ?_ | refine zh ?_ | (refine zi ?_; try refine RgD_plain rfl ?_) | refine w_drawn rfl ?_ | refine zj ?_ | refine zl ?_
 | ((first | apply zs | (apply zt; (focus rfl)) | (apply zu; (focus rfl)) | (apply zv; (focus rfl)) | apply zw | apply zx | apply zy | apply zB | apply zC | apply zD | apply zE | apply zF); (focus ((conv => lhs; simp [hso]); first | done | rfl)); first | apply zk | (apply zn; (focus rfl); try (focus (first | rfl | (simp [hso]; done)))) | (apply zo; (focus rfl)) | apply gv_u | apply gv_tt | apply gv_ff | apply gv_ft | apply gv_tf | exact (sorted_runs r1 (by simp <;> omega))))
    have hk0 : KeepB h h' none := ((KeepB.refl h none).push _).trans k1
    have hcr0 : h'.cellsAt h.size = some [.int .i64 st, .bool ab, .int .i64 z] := by rw [k1.cells (by simp) (by simp)]; simp
    have hsz0 := k1.1
    simp at hsz0
    generalize hH : h'.push (.cells [.slice none 0 0] _) = H
    have hHs : H.size = h'.size + 1 := by rw [← hH]; simp
    have hHpo : H[h'.size]? = some (.cells [.slice none 0 0] 24) := by rw [← hH]; simp
    have hkH : KeepB h H none := by rw [← hH]; exact hk0.push _
    have hcrH : Heap.cellsAt H h.size = some [.int .i64 st, .bool ab, .int .i64 z] := by rw [← hH, cellsAt_push, if_neg (by omega), hcr0]
    refine w_loop (A := Nat × Value × List Sg) (fun A env h1 => A.1 ≤ xs.length ∧ env 2 = .pointer (some ⟨h.size, 0, none⟩) ∧ env 5 = .pointer (some ⟨h'.size, 0, none⟩) ∧ env 6 = .func (.func 63) #[] #[.pointer (some ⟨h'.size, 0, none⟩), .pointer (some ⟨h.size, 0, none⟩)] ∧ env 14 = .slice a xs.length c ∧ env 15 = .int .i64 xs.length ∧ env 16 = .int .i64 A.1 ∧
        h1[h'.size]? = some (.cells [A.2.1] 24) ∧ h1.cellsAt h.size = some [.int .i64 st, .bool ab, .int .i64 z] ∧ Buf h.size h1 58 5 A.2.1 (elems sgC A.2.2) ∧ (blk A.2.1 = none ∨ ∃ b, blk A.2.1 = some b ∧ h'.size < b) ∧ KeepB h h1 none ∧ A.2.2 = (xs.take A.1).foldl (tidyS st ab z) [] ∧ A.2.2.length ≤ A.1 ∧ okTail A.2.2 (xs.drop A.1)) (fun A => xs.length - A.1) (a0 := (0, .slice none 0 0, []))
      ⟨by simp, by simp, by simp, by simp, by simp, by simp, by simp, hHpo, hcrH, .inl ⟨rfl, rfl⟩, .inl rfl, hkH, rfl, by simp, hso, by simp⟩ ?_
    rintro ⟨i, w, out⟩ env h1 ⟨hi, e2, e5, e6, e14, e15, e16, hpo, hcr, hb, hbl, hk, hout, hol, hok⟩
    simp only at hi e2 e5 e6 e14 e15 e16 hpo hcr hb hbl hk hout hol hok
    have hpl := (Array.getElem?_eq_some_iff.1 hpo).1
    by_cases hlt : i < xs.length
    · obtain ⟨x, hx, hd⟩ := elem_at hlt
      rw [hd] at hok
      obtain ⟨b, o, cs, rfl, hbb, hc, hga⟩ := (hr.keepB hk (.inl rfl)).all sgC_len (by omega)
      have hgr : grab cs (o + i * 5) 5 = some [.int .i64 x.s.a, .int .i64 x.s.b, .int .i64 x.s.c, .int .i64 x.s.d, .int .i64 x.v] := hga i x hx hlt
      have w1 := wadd (i := i) (by omega)
      have hft := foldl_take (st := st) (z := z) (ab := ab) hx
      rw [← hout] at hft
      have n1 : ¬ b = h1.size := by omega
      have n2 : ¬ h.size = h1.size := by omega
      have n3 : h.size ≤ h1.size := by omega
      have hst := okTail_step (st := st) (z := z) (ab := ab) hok
      by_cases hskip : (ab && x.v == z) = true
      · have hab : ab = true := by simp at hskip; exact hskip.1
        have hxz : (x.v != z) = false := by simp at hskip ⊢; exact hskip.2
        have e' : tidyS st ab z out x = out := by rw [tidyS, if_pos hskip]
        rw [e'] at hft hst
        clear hga hr hd hok
        repeat (first
 | refine za ?_ | refine zb ?_ | refine zc ?_ | refine zd ?_ | refine ze ?_ | refine zf ?_ | refine zg ?_ | refine zh ?_ | (refine zi ?_; try refine RgD_plain rfl ?_) | refine w_drawn rfl ?_ | refine zj ?_ | refine zl ?_
 | ((first | apply zs | (apply zt; (focus rfl)) | (apply zu; (focus rfl)) | (apply zv; (focus rfl)) | apply zx | apply zy | apply zB | apply zC | apply zD | apply zE | apply zF); (focus ((conv => lhs; simp [e2, e5, e6, e14, e15, e16, hlt, hc, hgr, hcr, hab, hxz, w1, n1, n2, n3]); first | done | rfl)); first | apply zk | (apply zn; (focus rfl); try (focus (first | rfl | (simp [e2, e5, e6, e14, e15, e16, hlt, hc, hgr, hcr, hab, hxz, w1, n1, n2, n3]; done)))) | (apply zo; (focus rfl)) | apply gv_u | apply gv_tt | apply gv_ff | apply gv_ft | apply gv_tf))
        exact ⟨(i + 1, w, out), ⟨by simp only; omega, by simp [e2], by simp [e5], by simp [e6], by simp [e14], by simp [e15], by simp, by rw [Array.getElem?_push, if_neg (by omega), hpo], by rw [cellsAt_push, if_neg n2, hcr], hb.push _, hbl, hk.push _, hft.symm, by simp only; omega, hst⟩, by simp only; omega⟩
      · have e' : tidyS st ab z out x = addS st out x := by rw [tidyS, if_neg hskip]
        rw [e'] at hft hst
        have hblp : blk w ≠ some h'.size := by
          rcases hbl with q | ⟨b, q, hb⟩
          · rw [q]; simp
          · rw [q]; intro q2; cases q2; omega
        have hblr : blk w ≠ some h.size := by
          rcases hbl with q | ⟨b, q, hb⟩
          · rw [q]; simp
          · rw [q]; intro q2; cases q2; omega
        have hadd := add_runs (f := h.size) (h := h1.push (.cells (sgC x) 58)) (po := h'.size) (pr := h.size) (w := w) (out := out) (x := x) (st := st) (z := z) (ab := ab) (by rw [Array.getElem?_push, if_neg (by omega), hpo]) (by omega) (by rw [cellsAt_push, if_neg n2, hcr]) (hb.push _) (by omega) (by omega) (by simp; omega) hblp hblr (fun o y e => okTail_touch (e ▸ hok))
        clear hga hr hd hok
        have post : ∀ h2, Added h.size (h1.push (.cells (sgC x) 58)) h'.size w (addS st out x) h2 → ∃ w2, h2[h'.size]? = some (.cells [w2] 24) ∧ h2.cellsAt h.size = some [.int .i64 st, .bool ab, .int .i64 z] ∧ Buf h.size h2 58 5 w2 (elems sgC (addS st out x)) ∧ (blk w2 = none ∨ ∃ b, blk w2 = some b ∧ h'.size < b) ∧ KeepB h h2 none := by
          rintro h2 ⟨w2, p1, p2, p3, p4, p5⟩
          simp at p4 p5
          refine ⟨w2, p1, ?_, p2, ?_, by omega, fun y hy hne => ?_⟩
          · unfold Heap.cellsAt
            rw [p5 h.size (by omega) (by omega) hblr, Array.getElem?_push, if_neg n2]
            exact hcr
          · rcases p3 with q | ⟨b, q, hb'⟩
            · rw [q]; exact hbl
            · simp at hb'; exact .inr ⟨b, q, by omega⟩
          · have hbly : blk w ≠ some y := by
              rcases hbl with q | ⟨b, q, hb⟩
              · rw [q]; simp
              · rw [q]; intro q2; cases q2; omega
            rw [p5 y (by omega) (by omega) hbly, Array.getElem?_push, if_neg (by omega), hk.2 y hy hne]
        cases hab : ab with
        | false =>
          repeat (first
 | refine za ?_ | refine zb ?_ | refine zc ?_ | refine zd ?_ | refine ze ?_ | refine zf ?_ | refine zg ?_ | refine zh ?_ | (refine zi ?_; try refine RgD_plain rfl ?_) | refine w_drawn rfl ?_ | refine zj ?_ | refine zl ?_
 | ((first | apply zs | (apply zt; (focus rfl)) | (apply zu; (focus rfl)) | (apply zv; (focus rfl)) | apply zx | apply zy | apply zB | apply zC | apply zD | apply zE | apply zF); (focus ((conv => lhs; simp [e2, e5, e6, e14, e15, e16, hlt, hc, hgr, hcr, hab, w1, n1, n2, n3]); first | done | rfl)); first | apply zk | (apply zn; (focus rfl); try (focus (first | rfl | (simp [e2, e5, e6, e14, e15, e16, hlt, hc, hgr, hcr, hab, w1, n1, n2, n3]; done)))) | (apply zo; (focus rfl)) | apply gv_u | apply gv_tt | apply gv_ff | apply gv_ft | apply gv_tf))
          (apply zW; (focus ((conv => lhs; simp [e2, e5, e6, e14, e15, e16]); first | done | rfl)); (focus exact hadd)); intro r2 h2 q2
          obtain ⟨w2, p1, p2, p3, p4, p5⟩ := post h2 q2
          repeat (first
 | refine za ?_ | refine zb ?_ | refine zc ?_ | refine zd ?_ | refine ze ?_ | refine zf ?_ | refine zg ?_ | refine zh ?_ | (refine zi ?_; try refine RgD_plain rfl ?_) | refine w_drawn rfl ?_ | refine zj ?_ | refine zl ?_
 | ((first | apply zs | (apply zt; (focus rfl)) | (apply zu; (focus rfl)) | (apply zv; (focus rfl)) | apply zx | apply zy | apply zB | apply zC | apply zD | apply zE | apply zF); (focus ((conv => lhs; simp [e2, e5, e6, e14, e15, e16, w1]); first | done | rfl)); first | apply zk | (apply zn; (focus rfl); try (focus (first | rfl | (simp [e2, e5, e6, e14, e15, e16, w1]; done)))) | (apply zo; (focus rfl)) | apply gv_u | apply gv_tt | apply gv_ff | apply gv_ft | apply gv_tf))
          subst hab
          exact ⟨(i + 1, w2, addS st out x), ⟨by simp only; omega, by simp [e2], by simp [e5], by simp [e6], by simp [e14], by simp [e15], by simp, p1, p2, p3, p4, p5, hft.symm, by have := addS_len (st := st) (out := out) (x := x); simp only; omega, hst⟩, by simp only; omega⟩
        | true =>
          have hxz : (x.v != z) = true := by simp [hab] at hskip ⊢; exact hskip
          repeat (first
 | refine za ?_ | refine zb ?_ | refine zc ?_ | refine zd ?_ | refine ze ?_ | refine zf ?_ | refine zg ?_ | refine zh ?_ | (refine zi ?_; try refine RgD_plain rfl ?_) | refine w_drawn rfl ?_ | refine zj ?_ | refine zl ?_
 | ((first | apply zs | (apply zt; (focus rfl)) | (apply zu; (focus rfl)) | (apply zv; (focus rfl)) | apply zx | apply zy | apply zB | apply zC | apply zD | apply zE | apply zF); (focus ((conv => lhs; simp [e2, e5, e6, e14, e15, e16, hlt, hc, hgr, hcr, hab, hxz, w1, n1, n2, n3]); first | done | rfl)); first | apply zk | (apply zn; (focus rfl); try (focus (first | rfl | (simp [e2, e5, e6, e14, e15, e16, hlt, hc, hgr, hcr, hab, hxz, w1, n1, n2, n3]; done)))) | (apply zo; (focus rfl)) | apply gv_u | apply gv_tt | apply gv_ff | apply gv_ft | apply gv_tf))
          (apply zW; (focus ((conv => lhs; simp [e2, e5, e6, e14, e15, e16]); first | done | rfl)); (focus exact hadd)); intro r2 h2 q2
          obtain ⟨w2, p1, p2, p3, p4, p5⟩ := post h2 q2
          repeat (first
 | refine za ?_ | refine zb ?_ | refine zc ?_ | refine zd ?_ | refine ze ?_ | refine zf ?_ | refine zg ?_ | refine zh ?_ | (refine zi ?_; try refine RgD_plain rfl ?_) | refine w_drawn rfl ?_ | refine zj ?_ | refine zl ?_
 | ((first | apply zs | (apply zt; (focus rfl)) | (apply zu; (focus rfl)) | (apply zv; (focus rfl)) | apply zx | apply zy | apply zB | apply zC | apply zD | apply zE | apply zF); (focus ((conv => lhs; simp [e2, e5, e6, e14, e15, e16, w1]); first | done | rfl)); first | apply zk | (apply zn; (focus rfl); try (focus (first | rfl | (simp [e2, e5, e6, e14, e15, e16, w1]; done)))) | (apply zo; (focus rfl)) | apply gv_u | apply gv_tt | apply gv_ff | apply gv_ft | apply gv_tf))
          subst hab
          exact ⟨(i + 1, w2, addS st out x), ⟨by simp only; omega, by simp [e2], by simp [e5], by simp [e6], by simp [e14], by simp [e15], by simp, p1, p2, p3, p4, p5, hft.symm, by have := addS_len (st := st) (out := out) (x := x); simp only; omega, hst⟩, by simp only; omega⟩
    · have hh : xs.take i = xs := List.take_of_length_le (by omega)
      rw [hh] at hout
      have hcp : h1.cellsAt h'.size = some [w] := by unfold Heap.cellsAt; rw [hpo]
      obtain ⟨v', h2, q1, q2, q3, q4⟩ := finish_buf (f := f) (h0 := h) (n := out.length) hb (by omega) (by rw [elems_len sgC_len]) hf (all_below_ints (elems_ints sgC_ints _))
      repeat (first
 | refine za ?_ | refine zb ?_ | refine zc ?_ | refine zd ?_ | refine ze ?_ | refine zf ?_ | refine zg ?_ | refine zh ?_ | (refine zi ?_; try refine RgD_plain rfl ?_) | refine w_drawn rfl ?_ | refine zj ?_ | refine zl ?_
 | ((first | apply zs | (apply zt; (focus rfl)) | (apply zu; (focus rfl)) | (apply zv; (focus rfl)) | apply zx | apply zy | apply zB | apply zC | apply zD | apply zE | apply zF); (focus ((conv => lhs; simp [e2, e5, e6, e14, e15, e16, hlt, hcp]); first | done | rfl)); first | apply zk | (apply zn; (focus rfl); try (focus (first | rfl | (simp [e2, e5, e6, e14, e15, e16, hlt, hcp]; done)))) | (apply zo; (focus rfl)) | apply gv_u | apply gv_tt | apply gv_ff | apply gv_ft | apply gv_tf))
      rw [← hout]
      exact w_endr (vs := [w]) (by simp) q1 ⟨q2, q3, q4⟩
def fineM (st : Int) (ab : Bool) (z : Int) (xs : List Sg) : Bool := sortedFrom none (xs.map (·.s)) && decide (tidy st ab z xs = xs)
theorem tidyF_len {st z : Int} {ab : Bool} : ∀ (xs out : List Sg), (xs.foldl (tidyS st ab z) out).length ≤ out.length + xs.length
  | [], out => by simp
  | x :: xs, out => by
    have := tidyF_len (st := st) (z := z) (ab := ab) xs (tidyS st ab z out x)
    have := tidyS_len (st := st) (z := z) (ab := ab) (out := out) (x := x)
    simp only [List.foldl_cons, List.length_cons]; omega
theorem tidy_len {st z : Int} {ab : Bool} {xs : List Sg} : (tidy st ab z xs).length ≤ xs.length := by
  unfold tidy; split
  · have := tidyF_len (st := st) (z := z) (ab := ab) xs []; simp at this; exact this
  · simp
theorem ifine_runs {v : Value} {xs : List Sg} {st z : Int} {ab : Bool} (hr : GRow h v xs) (hl : xs.length ≤ 100000) :
    Runs X ⟨f, []⟩ 20 [.agg #[.int .i64 st, .bool ab, .int .i64 z], v] h (.bool (fineM st ab z xs)) h := by
  refine callR.toRuns (callR_of rfl f20_is ?_)
  simp only [f20r0, f20r1, f20b]
  repeat (first
 | refine za ?_ | refine zb ?_ | refine zc ?_ | refine zd ?_ | refine ze ?_ | refine zf ?_ | refine zg ?_ | refine zh ?_ | (refine zi ?_; try refine RgD_plain rfl ?_) | refine w_drawn rfl ?_ | refine zj ?_ | refine zl ?_
 | ((first | apply zs | (apply zt; (focus rfl)) | (apply zu; (focus rfl)) | (apply zv; (focus rfl)) | apply zx | apply zy | apply zB | apply zC | apply zD | apply zE | apply zF); (focus ((conv => lhs; simp); first | done | rfl)); first | apply zk | (apply zn; (focus rfl); try (focus (first | rfl | (simp; done)))) | (apply zo; (focus rfl)) | apply gv_u | apply gv_tt | apply gv_ff | apply gv_ft | apply gv_tf))
  (apply zW; (focus ((conv => lhs; simp); first | done | rfl)); (focus exact ispans_runs (hr.push _) hl (by simp))); intro v' h' q
  obtain ⟨k1, b1, r1⟩ := q
  have hc : h'.cellsAt h.size = some [.int .i64 st, .bool ab, .int .i64 z] := by rw [k1.cells (by simp) (by simp)]; simp
  have hk : KeepB h h' none := ((KeepB.refl _ _).push _).trans k1
  have htl := tidy_len (st := st) (z := z) (ab := ab) (xs := xs)
  cases hso : sortedFrom none (xs.map (·.s)) with
  | false =>
    have e : fineM st ab z xs = false := by simp [fineM, hso]
    rw [e]
    repeat (first
 | refine za ?_ | refine zb ?_ | refine zc ?_ | refine zd ?_ | refine ze ?_ | refine zf ?_ | refine zg ?_ | refine zh ?_ | (refine zi ?_; try refine RgD_plain rfl ?_) | refine w_drawn rfl ?_ | refine zj ?_ | refine zl ?_
 | ((first | apply zs | (apply zt; (focus rfl)) | (apply zu; (focus rfl)) | (apply zv; (focus rfl)) | apply zw | apply zx | apply zy | apply zB | apply zC | apply zD | apply zE | apply zF); (focus ((conv => lhs; simp [hso, hc]); first | done | rfl)); first | apply zk | (apply zn; (focus rfl); try (focus (first | rfl | (simp [hso, hc]; done)))) | (apply zo; (focus rfl)) | apply gv_u | apply gv_tt | apply gv_ff | apply gv_ft | apply gv_tf | exact (sorted_runs r1 (by simp <;> omega))))
    exact ⟨rfl, rfl⟩
  | true =>
    have e : fineM st ab z xs = decide (tidy st ab z xs = xs) := by simp [fineM, hso]
    rw [e]
    repeat (first
 | refine za ?_ | refine zb ?_ | refine zc ?_ | refine zd ?_ | refine ze ?_ | refine zf ?_ | refine zg ?_ | refine zh ?_ | (refine zi ?_; try refine RgD_plain rfl ?_) | refine w_drawn rfl ?_ | refine zj ?_ | refine zl ?_
 | ((first | apply zs | (apply zt; (focus rfl)) | (apply zu; (focus rfl)) | (apply zv; (focus rfl)) | apply zw | apply zx | apply zy | apply zB | apply zC | apply zD | apply zE | apply zF); (focus ((conv => lhs; simp [hso, hc]); first | done | rfl)); first | apply zk | (apply zn; (focus rfl); try (focus (first | rfl | (simp [hso, hc]; done)))) | (apply zo; (focus rfl)) | apply gv_u | apply gv_tt | apply gv_ff | apply gv_ft | apply gv_tf | exact (sorted_runs r1 (by simp <;> omega))))
    (apply zW; (focus ((conv => lhs; simp [hso]); first | done | rfl)); (focus exact itidy_runs (hr.keepB hk (.inl rfl)) hl hk.1)); intro v2 h2 q2
    obtain ⟨k2, b2, r2⟩ := q2
    repeat (first
 | refine za ?_ | refine zb ?_ | refine zc ?_ | refine zd ?_ | refine ze ?_ | refine zf ?_ | refine zg ?_ | refine zh ?_ | (refine zi ?_; try refine RgD_plain rfl ?_) | refine w_drawn rfl ?_ | refine zj ?_ | refine zl ?_
 | ((first | apply zs | (apply zt; (focus rfl)) | (apply zu; (focus rfl)) | (apply zv; (focus rfl)) | apply zw | apply zx | apply zy | apply zB | apply zC | apply zD | apply zE | apply zF); (focus ((conv => lhs; simp [hso]); first | done | rfl)); first | apply zk | (apply zn; (focus rfl); try (focus (first | rfl | (simp [hso]; done)))) | (apply zo; (focus rfl)) | apply gv_u | apply gv_tt | apply gv_ff | apply gv_ft | apply gv_tf | exact (equal47_runs r2 ((hr.keepB hk (.inl rfl)).keepB k2 (.inl rfl)) (by omega) hl)))
    exact ⟨rfl, rfl⟩
theorem fine14_runs {v : Value} {xs : List Sg} {st z : Int} {ab : Bool} (hr : GRow h v xs) (hl : xs.length ≤ 100000) :
    Runs X ⟨f, []⟩ 26 [.agg #[.int .i64 st, .bool ab, .int .i64 z], v] h (.bool (fineM st ab z xs)) h := by
  refine callR.toRuns (callR_of rfl f26_is ?_)
  simp only [f26r0, f26r1, f26b]
  have htl := tidy_len (st := st) (z := z) (ab := ab) (xs := xs)
  cases hso : sortedFrom none (xs.map (·.s)) with
  | false =>
    have e : fineM st ab z xs = false := by simp [fineM, hso]
    rw [e]
    repeat (first
 | refine za ?_ | refine zb ?_ | refine zc ?_ | refine zd ?_ | refine ze ?_ | refine zf ?_ | refine zg ?_ | refine zh ?_ | (refine zi ?_; try refine RgD_plain rfl ?_) | refine w_drawn rfl ?_ | refine zj ?_ | refine zl ?_
 | ((first | apply zs | (apply zt; (focus rfl)) | (apply zu; (focus rfl)) | (apply zv; (focus rfl)) | apply zw | apply zx | apply zy | apply zB | apply zC | apply zD | apply zE | apply zF); (focus ((conv => lhs; simp [hso]); first | done | rfl)); first | apply zk | (apply zn; (focus rfl); try (focus (first | rfl | (simp [hso]; done)))) | (apply zo; (focus rfl)) | apply gv_u | apply gv_tt | apply gv_ff | apply gv_ft | apply gv_tf | exact (sound_runs (hr.push _) hl)))
    exact ⟨rfl, rfl⟩
  | true =>
    have e : fineM st ab z xs = decide (tidy st ab z xs = xs) := by simp [fineM, hso]
    rw [e]
    repeat (first
 | refine za ?_ | refine zb ?_ | refine zc ?_ | refine zd ?_ | refine ze ?_ | refine zf ?_ | refine zg ?_ | refine zh ?_ | (refine zi ?_; try refine RgD_plain rfl ?_) | refine w_drawn rfl ?_ | refine zj ?_ | refine zl ?_
 | ((first | apply zs | (apply zt; (focus rfl)) | (apply zu; (focus rfl)) | (apply zv; (focus rfl)) | apply zw | apply zx | apply zy | apply zB | apply zC | apply zD | apply zE | apply zF); (focus ((conv => lhs; simp [hso]); first | done | rfl)); first | apply zk | (apply zn; (focus rfl); try (focus (first | rfl | (simp [hso]; done)))) | (apply zo; (focus rfl)) | apply gv_u | apply gv_tt | apply gv_ff | apply gv_ft | apply gv_tf | exact (sound_runs (hr.push _) hl)))
    (apply zW; (focus ((conv => lhs; simp [hso]); first | done | rfl)); (focus exact tidy2_runs (hr.push _) hl (by simp))); intro v2 h2 q2
    obtain ⟨k2, b2, r2⟩ := q2
    repeat (first
 | refine za ?_ | refine zb ?_ | refine zc ?_ | refine zd ?_ | refine ze ?_ | refine zf ?_ | refine zg ?_ | refine zh ?_ | (refine zi ?_; try refine RgD_plain rfl ?_) | refine w_drawn rfl ?_ | refine zj ?_ | refine zl ?_
 | ((first | apply zs | (apply zt; (focus rfl)) | (apply zu; (focus rfl)) | (apply zv; (focus rfl)) | apply zw | apply zx | apply zy | apply zB | apply zC | apply zD | apply zE | apply zF); (focus ((conv => lhs; simp [hso]); first | done | rfl)); first | apply zk | (apply zn; (focus rfl); try (focus (first | rfl | (simp [hso]; done)))) | (apply zo; (focus rfl)) | apply gv_u | apply gv_tt | apply gv_ff | apply gv_ft | apply gv_tf | exact (same14_runs r2 ((hr.push _).keepB k2 (.inl rfl)) (by omega) hl)))
    exact ⟨rfl, rfl⟩
theorem fine8m_runs {w : Value} {gs : List Sg} {st z : Int} {ab : Bool} (hr : GRow h w gs) (hl : gs.length ≤ 100000) :
    Runs X ⟨f, []⟩ 8 [.agg #[.bool true, .int .i64 st, .bool ab, .int .i64 z, w]] h (.bool (rightR st ab z && fineM st ab z gs)) h := by
  refine callR.toRuns (callR_of rfl f8_is ?_)
  simp only [f8r0, f8r1, f8r2, f8r3, f8b]
  have ho : one w = true := by obtain ⟨a, c, rfl⟩ := hr.form; rfl
  cases hri : rightR st ab z with
  | false =>
    repeat (first
 | refine za ?_ | refine zb ?_ | refine zc ?_ | refine zd ?_ | refine ze ?_ | refine zf ?_ | refine zg ?_ | refine zh ?_ | (refine zi ?_; try refine RgD_plain rfl ?_) | refine w_drawn rfl ?_ | refine zj ?_ | refine zl ?_
 | ((first | apply zs | (apply zt; (focus rfl)) | (apply zu; (focus rfl)) | (apply zv; (focus rfl)) | apply zw | apply zx | apply zy | apply zB | apply zC | apply zD | apply zE | apply zF); (focus ((conv => lhs; simp [hri, ho]); first | done | rfl)); first | apply zk | (apply zn; (focus rfl); try (focus (first | rfl | (simp [hri, ho]; done)))) | (apply zo; (focus rfl)) | apply gv_u | apply gv_tt | apply gv_ff | apply gv_ft | apply gv_tf | exact right14_runs))
    exact ⟨rfl, rfl⟩
  | true =>
    repeat (first
 | refine za ?_ | refine zb ?_ | refine zc ?_ | refine zd ?_ | refine ze ?_ | refine zf ?_ | refine zg ?_ | refine zh ?_ | (refine zi ?_; try refine RgD_plain rfl ?_) | refine w_drawn rfl ?_ | refine zj ?_ | refine zl ?_
 | ((first | apply zs | (apply zt; (focus rfl)) | (apply zu; (focus rfl)) | (apply zv; (focus rfl)) | apply zw | apply zx | apply zy | apply zB | apply zC | apply zD | apply zE | apply zF); (focus ((conv => lhs; simp [hri, ho]); first | done | rfl)); first | apply zk | (apply zn; (focus rfl); try (focus (first | rfl | (simp [hri, ho]; done)))) | (apply zo; (focus rfl)) | apply gv_u | apply gv_tt | apply gv_ff | apply gv_ft | apply gv_tf | exact right14_runs | exact (fine14_runs (hr.push _) hl)))
    exact ⟨rfl, rfl⟩
end Go.Proofs.YtmjaanhphkbkeaaGreat
end
