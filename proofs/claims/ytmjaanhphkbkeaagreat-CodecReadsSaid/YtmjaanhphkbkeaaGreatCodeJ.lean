import Derived.Test.YtmjaanhphkbkeaaGreatCodeI
set_option linter.all false
section
namespace Go.Proofs.YtmjaanhphkbkeaaGreat
open Go.AM
set_option linter.unusedSimpArgs false
set_option linter.unusedVariables false
variable {f : Nat} {h : Heap}
/-! ### what a rule leaves -/
def mergeS (st : Int) (y x : Sg) : Bool := st == 0 && (y.v == x.v && (y.s.c == x.s.a && y.s.d == x.s.b))
def joined (y x : Sg) : Sg := ⟨⟨y.s.a, y.s.b, x.s.c, x.s.d⟩, y.v⟩
def addS (st : Int) (out : List Sg) (x : Sg) : List Sg := match out.getLast? with
  | none => [x]
  | some y => if mergeS st y x then out.dropLast ++ [joined y x] else out ++ [x]
def tidyS (st : Int) (ab : Bool) (z : Int) (out : List Sg) (x : Sg) : List Sg := if ab && x.v == z then out else addS st out x
def tidy (st : Int) (ab : Bool) (z : Int) (xs : List Sg) : List Sg := if sortedFrom none (xs.map (·.s)) then xs.foldl (tidyS st ab z) [] else []
theorem addS_snoc {st : Int} {o : List Sg} {y x : Sg} : addS st (o ++ [y]) x = if mergeS st y x then o ++ [joined y x] else o ++ [y] ++ [x] := by
  simp [addS]
theorem addS_len {st : Int} {out : List Sg} {x : Sg} : (addS st out x).length ≤ out.length + 1 := by
  unfold addS; split
  · simp
  · split
    · simp <;> omega
    · simp
theorem tidyS_len {st z : Int} {ab : Bool} {out : List Sg} {x : Sg} : (tidyS st ab z out x).length ≤ out.length + 1 := by
  unfold tidyS; split
  · omega
  · exact addS_len
theorem snoc_cases (out : List Sg) : out = [] ∨ ∃ o y, out = o ++ [y] := by
  rcases List.eq_nil_or_concat out with h | ⟨o, y, h⟩
  · exact .inl h
  · exact .inr ⟨o, y, by simpa using h⟩
theorem last_get {o : List Sg} {y : Sg} {p : Nat} (hp : p < 5) : (elems sgC (o ++ [y]))[o.length * 5 + p]? = (sgC y)[p]? := by
  rw [elems_append, ← elems_len sgC_len o, List.getElem?_append_right (by omega)]
  simp
theorem last_grab {o : List Sg} {y : Sg} {p m : Nat} (hp : p + m ≤ 5) : grab (elems sgC (o ++ [y])) (o.length * 5 + p) m = some (((sgC y).drop p).take m) := by
  have : grab (elems sgC (o ++ [y])) (o.length * 5) 5 = some (sgC y) := by
    unfold grab
    rw [elems_append, if_pos (by simp [elems_len sgC_len, sgC_len])]
    rw [← elems_len sgC_len o, List.drop_left]
    simp [sgC]
  exact grab_sub this hp
theorem last_put {o : List Sg} {y : Sg} {p : Nat} {vs : List Value} : putAt (elems sgC (o ++ [y])) (o.length * 5 + p) vs = elems sgC o ++ putAt (sgC y) p vs := by
  rw [elems_append, ← elems_len sgC_len o, putAt_app]; simp
theorem elems_sg_one (xs : List Sg) : (elems sgC xs).all one = true := all_one_ints (elems_ints sgC_ints xs)
theorem foldl_take {st z : Int} {ab : Bool} {xs : List Sg} {i : Nat} {x : Sg} (hx : xs[i]? = some x) : (xs.take (i + 1)).foldl (tidyS st ab z) [] = tidyS st ab z ((xs.take i).foldl (tidyS st ab z) []) x := by
  rw [List.take_add_one, hx]; simp
set_option maxHeartbeats 4000000 in
theorem tidy2_runs {v : Value} {xs : List Sg} {st z : Int} {ab : Bool} (hr : GRow h v xs) (hl : xs.length ≤ 100000) (hf : f ≤ h.size) :
    callR X ⟨f, []⟩ 52 [.agg #[.int .i64 st, .bool ab, .int .i64 z], v] h fun v' h' => KeepB h h' none ∧ Buf f h' 58 5 v' (elems sgC (tidy st ab z xs)) ∧ GRow h' v' (tidy st ab z xs) := by
  refine callR_of rfl f52_is ?_
  simp only [f52r0, f52r1, f52r2, f52r3, f52r4, f52r5, f52r6, f52r7, f52r8, f52r9, f52r10, f52r11, f52l12, f52r13, f52b]
  obtain ⟨a, c, rfl⟩ := hr.form
  cases hso : sortedFrom none (xs.map (·.s)) with
  | false =>
    have e : tidy st ab z xs = [] := by simp [tidy, hso]
    rw [e]
    repeat (first
 | refine za ?_ | refine zb ?_ | refine zc ?_ | refine zd ?_ | refine ze ?_ | refine zf ?_ | refine zg ?_ | refine zh ?_ | (refine zi ?_; try refine RgD_plain rfl ?_) | refine w_drawn rfl ?_ | refine zj ?_ | refine zl ?_
 | ((first | apply zs | (apply zt; (focus rfl)) | (apply zu; (focus rfl)) | (apply zv; (focus rfl)) | apply zw | apply zx | apply zy | apply zB | apply zC | apply zD | apply zE | apply zF); (focus ((conv => lhs; simp [hso]); first | done | rfl)); first | apply zk | (apply zn; (focus rfl); try (focus (first | rfl | (simp [hso]; done)))) | (apply zo; (focus rfl)) | apply gv_u | apply gv_tt | apply gv_ff | apply gv_ft | apply gv_tf | exact (sound_runs (hr.push _) hl)))
    exact ⟨.refl _ _, .inl ⟨rfl, rfl⟩, Buf.row (f := 0) (.inl ⟨rfl, rfl⟩) (by omega) rfl⟩
  | true =>
    have e : tidy st ab z xs = xs.foldl (tidyS st ab z) [] := by simp [tidy, hso]
    rw [e]
    repeat (first
 | refine za ?_ | refine zb ?_ | refine zc ?_ | refine zd ?_ | refine ze ?_ | refine zf ?_ | refine zg ?_ | refine zh ?_ | (refine zi ?_; try refine RgD_plain rfl ?_) | refine w_drawn rfl ?_ | refine zj ?_ | refine zl ?_
 | ((first | apply zs | (apply zt; (focus rfl)) | (apply zu; (focus rfl)) | (apply zv; (focus rfl)) | apply zw | apply zx | apply zy | apply zB | apply zC | apply zD | apply zE | apply zF); (focus ((conv => lhs; simp [hso]); first | done | rfl)); first | apply zk | (apply zn; (focus rfl); try (focus (first | rfl | (simp [hso]; done)))) | (apply zo; (focus rfl)) | apply gv_u | apply gv_tt | apply gv_ff | apply gv_ft | apply gv_tf | exact (sound_runs (hr.push _) hl)))
    generalize hH : h.push (.cells [.int .i64 st, .bool ab, .int .i64 z] _) = H
    have hHs : H.size = h.size + 1 := by rw [← hH]; simp
    have hHc : Heap.cellsAt H h.size = some [.int .i64 st, .bool ab, .int .i64 z] := by rw [← hH]; simp
    have hrH : GRow H (.slice a xs.length c) xs := by rw [← hH]; exact hr.push _
    refine w_loop (A := Nat × Value × List Sg) (fun A env h' => A.1 ≤ xs.length ∧ env 1 = .slice a xs.length c ∧ env 2 = .pointer (some ⟨h.size, 0, none⟩) ∧ env 6 = .int .i64 A.1 ∧ env 5 = A.2.1 ∧ Grow h.size 58 5 H h' (.slice none 0 0) A.2.1 (elems sgC A.2.2) ∧ A.2.2 = (xs.take A.1).foldl (tidyS st ab z) [] ∧ A.2.2.length ≤ A.1) (fun A => xs.length - A.1) (a0 := (0, .slice none 0 0, []))
      ⟨by simp, by simp, by simp, by simp, by simp, .refl (.inl ⟨rfl, by simp⟩) (by omega) rfl, rfl, by simp⟩ ?_
    rintro ⟨i, w, out⟩ env h' ⟨hi, e1, e2, e6, e5, hg, hout, hol⟩
    simp only at hi e1 e2 e6 e5 hg hout hol
    have hk1 := hg.keep.1
    have hcr : h'.cellsAt h.size = some [.int .i64 st, .bool ab, .int .i64 z] := by rw [hg.cells (by omega) (by simp [blk]), hHc]
    by_cases hlt : i < xs.length
    · obtain ⟨x, hx, hd⟩ := elem_at hlt
      obtain ⟨b, o, cs, rfl, hb, hc, hga⟩ := (hrH.keepB hg.keep (.inl rfl)).all sgC_len (by omega)
      have hgr : grab cs (o + i * 5) 5 = some [.int .i64 x.s.a, .int .i64 x.s.b, .int .i64 x.s.c, .int .i64 x.s.d, .int .i64 x.v] := hga i x hx hlt
      have hgv : cs[o + i * 5 + 4]? = some (.int .i64 x.v) := grab_get (hga i x hx hlt) (p := 4) (by omega)
      have hg2 : grab cs (o + i * 5) 2 = some [.int .i64 x.s.a, .int .i64 x.s.b] := grab_sub (hga i x hx hlt) (p := 0) (m := 2) (by omega)
      have hg3 : grab cs (o + i * 5 + 2) 2 = some [.int .i64 x.s.c, .int .i64 x.s.d] := grab_sub (hga i x hx hlt) (p := 2) (m := 2) (by omega)
      have w1 := wadd (i := i) (by omega)
      have hft := foldl_take (st := st) (z := z) (ab := ab) hx
      rw [← hout] at hft
      by_cases hskip : (ab && x.v == z) = true
      · have hab : ab = true := by simp at hskip; exact hskip.1
        have hxz : (x.v == z) = true := by simp at hskip ⊢; exact hskip.2
        have e' : tidyS st ab z out x = out := by rw [tidyS, if_pos hskip]
        rw [e'] at hft
        clear hga hr hrH hd
        repeat (first
 | refine za ?_ | refine zb ?_ | refine zc ?_ | refine zd ?_ | refine ze ?_ | refine zf ?_ | refine zg ?_ | refine zh ?_ | (refine zi ?_; try refine RgD_plain rfl ?_) | refine w_drawn rfl ?_ | refine zj ?_ | refine zl ?_
 | ((first | apply zs | (apply zt; (focus rfl)) | (apply zu; (focus rfl)) | (apply zv; (focus rfl)) | apply zx | apply zy | apply zB | apply zC | apply zD | apply zE | apply zF); (focus ((conv => lhs; simp [e1, e2, e6, e5, hlt, hc, hgv, hcr, hab, hxz, w1]); first | done | rfl)); first | apply zk | (apply zn; (focus rfl); try (focus (first | rfl | (simp [e1, e2, e6, e5, hlt, hc, hgv, hcr, hab, hxz, w1]; done)))) | (apply zo; (focus rfl)) | apply gv_u | apply gv_tt | apply gv_ff | apply gv_ft | apply gv_tf))
        exact ⟨(i + 1, w, out), ⟨by simp only; omega, by simp [e1], by simp [e2], by simp, by simp [e5], hg, hft.symm, by simp only; omega⟩, by simp only; omega⟩
      · have e' : tidyS st ab z out x = addS st out x := by rw [tidyS, if_neg hskip]
        rw [e'] at hft
        clear hga hr hrH hd hso
        cases ab with
        | true =>
          have hxz : (x.v == z) = false := by simpa using hskip
          rcases snoc_cases out with hnil | ⟨ol, y, hsn⟩
          · subst hnil
            have hrow : Row h' 58 5 w 0 (elems sgC []) := hg.buf.row (by omega) rfl
            obtain ⟨aw, cw, rfl⟩ := hrow.form
            have w3 : IntKind.i64.wrap (-1) = -1 := by decide
            cases hst : (st == 0) with
            | true =>
              repeat (first
 | refine za ?_ | refine zb ?_ | refine zc ?_ | refine zd ?_ | refine ze ?_ | refine zf ?_ | refine zg ?_ | refine zh ?_ | (refine zi ?_; try refine RgD_plain rfl ?_) | refine w_drawn rfl ?_ | refine zj ?_ | refine zl ?_
 | ((first | apply zs | (apply zt; (focus rfl)) | (apply zu; (focus rfl)) | (apply zv; (focus rfl)) | apply zx | apply zy | apply zB | apply zC | apply zD | apply zE | apply zF); (focus ((conv => lhs; simp [e1, e2, e6, e5, hlt, hc, hgr, hgv, hcr, hxz, w1, w3, hst]); first | done | rfl)); first | apply zk | (apply zn; (focus rfl); try (focus (first | rfl | (simp [e1, e2, e6, e5, hlt, hc, hgr, hgv, hcr, hxz, w1, w3, hst]; done)))) | (apply zo; (focus rfl)) | apply gv_u | apply gv_tt | apply gv_ff | apply gv_ft | apply gv_tf))
              obtain ⟨v2, h2, q1, q2⟩ := (hg.push (.cells (sgC x) 58)).append (by_ := 40) (n := 0) (m := 1) (x := .slice (some ⟨h'.size, 0, none⟩) 1 1) (l2 := sgC x) (by omega) (by simp [srcCells, sgC]) (by omega) rfl rfl (by omega) (by omega) rfl
              refine w_mem (v := v2) (h' := h2) rfl (by simpa [e5, sgC] using q1) ?_
              repeat (first
 | refine za ?_ | refine zb ?_ | refine zc ?_ | refine zd ?_ | refine ze ?_ | refine zf ?_ | refine zg ?_ | refine zh ?_ | (refine zi ?_; try refine RgD_plain rfl ?_) | refine w_drawn rfl ?_ | refine zj ?_ | refine zl ?_
 | ((first | apply zs | (apply zt; (focus rfl)) | (apply zu; (focus rfl)) | (apply zv; (focus rfl)) | apply zx | apply zy | apply zB | apply zC | apply zD | apply zE | apply zF); (focus ((conv => lhs; simp [e1, e2, e6, e5, w1]); first | done | rfl)); first | apply zk | (apply zn; (focus rfl); try (focus (first | rfl | (simp [e1, e2, e6, e5, w1]; done)))) | (apply zo; (focus rfl)) | apply gv_u | apply gv_tt | apply gv_ff | apply gv_ft | apply gv_tf))
              exact ⟨(i + 1, v2, [x]), ⟨by simp only; omega, by simp [e1], by simp [e2], by simp, by simp, by simpa using q2, by rw [hft]; simp [addS], by simp⟩, by simp only; omega⟩
            | false =>
              repeat (first
 | refine za ?_ | refine zb ?_ | refine zc ?_ | refine zd ?_ | refine ze ?_ | refine zf ?_ | refine zg ?_ | refine zh ?_ | (refine zi ?_; try refine RgD_plain rfl ?_) | refine w_drawn rfl ?_ | refine zj ?_ | refine zl ?_
 | ((first | apply zs | (apply zt; (focus rfl)) | (apply zu; (focus rfl)) | (apply zv; (focus rfl)) | apply zx | apply zy | apply zB | apply zC | apply zD | apply zE | apply zF); (focus ((conv => lhs; simp [e1, e2, e6, e5, hlt, hc, hgr, hgv, hcr, hxz, w1, w3, hst]); first | done | rfl)); first | apply zk | (apply zn; (focus rfl); try (focus (first | rfl | (simp [e1, e2, e6, e5, hlt, hc, hgr, hgv, hcr, hxz, w1, w3, hst]; done)))) | (apply zo; (focus rfl)) | apply gv_u | apply gv_tt | apply gv_ff | apply gv_ft | apply gv_tf))
              obtain ⟨v2, h2, q1, q2⟩ := (hg.push (.cells (sgC x) 58)).append (by_ := 40) (n := 0) (m := 1) (x := .slice (some ⟨h'.size, 0, none⟩) 1 1) (l2 := sgC x) (by omega) (by simp [srcCells, sgC]) (by omega) rfl rfl (by omega) (by omega) rfl
              refine w_mem (v := v2) (h' := h2) rfl (by simpa [e5, sgC] using q1) ?_
              repeat (first
 | refine za ?_ | refine zb ?_ | refine zc ?_ | refine zd ?_ | refine ze ?_ | refine zf ?_ | refine zg ?_ | refine zh ?_ | (refine zi ?_; try refine RgD_plain rfl ?_) | refine w_drawn rfl ?_ | refine zj ?_ | refine zl ?_
 | ((first | apply zs | (apply zt; (focus rfl)) | (apply zu; (focus rfl)) | (apply zv; (focus rfl)) | apply zx | apply zy | apply zB | apply zC | apply zD | apply zE | apply zF); (focus ((conv => lhs; simp [e1, e2, e6, e5, w1]); first | done | rfl)); first | apply zk | (apply zn; (focus rfl); try (focus (first | rfl | (simp [e1, e2, e6, e5, w1]; done)))) | (apply zo; (focus rfl)) | apply gv_u | apply gv_tt | apply gv_ff | apply gv_ft | apply gv_tf))
              exact ⟨(i + 1, v2, [x]), ⟨by simp only; omega, by simp [e1], by simp [e2], by simp, by simp, by simpa using q2, by rw [hft]; simp [addS], by simp⟩, by simp only; omega⟩
          · subst hsn
            obtain ⟨bw, n, rfl, hn, hbw, hcw, hbwl, hfw⟩ := hg.buf.cell (by simp [sgC])
            rw [elems_len sgC_len] at hn
            have hn' : n = ol.length + 1 := by simp at hn; omega
            subst hn'
            have w3 : IntKind.i64.wrap ((ol.length : Int) + 1 - 1) = ol.length := by rw [wrapI (by simp at hol; omega)]; omega
            have w4 : IntKind.i64.wrap (ol.length : Int) = ol.length := wrapI (by simp at hol; omega)
            have hlo : (ol.length : Int) < (ol.length : Int) + 1 := by omega
            obtain ⟨L, hL⟩ : ∃ L, L = elems sgC (ol ++ [y]) := ⟨_, rfl⟩
            have hyv : (elems sgC (ol ++ [y]))[ol.length * 5 + 4]? = some (.int .i64 y.v) := last_get (by omega)
            have hy1 : grab (elems sgC (ol ++ [y])) (ol.length * 5) 2 = some [.int .i64 y.s.a, .int .i64 y.s.b] := last_grab (p := 0) (m := 2) (by omega)
            have hy2 : grab (elems sgC (ol ++ [y])) (ol.length * 5 + 2) 2 = some [.int .i64 y.s.c, .int .i64 y.s.d] := last_grab (p := 2) (m := 2) (by omega)
            have hap : ¬ mergeS st y x = true → addS st (ol ++ [y]) x = ol ++ [y] ++ [x] := fun q => by rw [addS_snoc, if_neg q]
            rw [← hL] at hbw hcw hyv hy1 hy2
            cases hst : (st == 0) with
            | false =>
              have hm : ¬ mergeS st y x = true := by simp [mergeS, hst]
              rw [hap hm] at hft
              repeat (first
 | refine za ?_ | refine zb ?_ | refine zc ?_ | refine zd ?_ | refine ze ?_ | refine zf ?_ | refine zg ?_ | refine zh ?_ | (refine zi ?_; try refine RgD_plain rfl ?_) | refine w_drawn rfl ?_ | refine zj ?_ | refine zl ?_
 | ((first | apply zs | (apply zt; (focus rfl)) | (apply zu; (focus rfl)) | (apply zv; (focus rfl)) | apply zx | apply zy | apply zB | apply zC | apply zD | apply zE | apply zF); (focus ((conv => lhs; simp [e1, e2, e6, e5, hlt, hc, hgr, hgv, hcr, hxz, w1, w3, w4, hlo, hst]); first | done | rfl)); first | apply zk | (apply zn; (focus rfl); try (focus (first | rfl | (simp [e1, e2, e6, e5, hlt, hc, hgr, hgv, hcr, hxz, w1, w3, w4, hlo, hst]; done)))) | (apply zo; (focus rfl)) | apply gv_u | apply gv_tt | apply gv_ff | apply gv_ft | apply gv_tf))
              obtain ⟨v2, h2, q1, q2⟩ := (hg.push (.cells (sgC x) 58)).append (by_ := 40) (n := ol.length + 1) (m := 1) (x := .slice (some ⟨h'.size, 0, none⟩) 1 1) (l2 := sgC x) (by omega) (by simp [srcCells, sgC]) (by omega) (by rw [elems_len sgC_len]; simp) rfl (by simp at hol; omega) (by simp at hol; omega) rfl
              refine w_mem (v := v2) (h' := h2) rfl (by simpa [e5, sgC] using q1) ?_
              repeat (first
 | refine za ?_ | refine zb ?_ | refine zc ?_ | refine zd ?_ | refine ze ?_ | refine zf ?_ | refine zg ?_ | refine zh ?_ | (refine zi ?_; try refine RgD_plain rfl ?_) | refine w_drawn rfl ?_ | refine zj ?_ | refine zl ?_
 | ((first | apply zs | (apply zt; (focus rfl)) | (apply zu; (focus rfl)) | (apply zv; (focus rfl)) | apply zx | apply zy | apply zB | apply zC | apply zD | apply zE | apply zF); (focus ((conv => lhs; simp [e1, e2, e6, e5, w1]); first | done | rfl)); first | apply zk | (apply zn; (focus rfl); try (focus (first | rfl | (simp [e1, e2, e6, e5, w1]; done)))) | (apply zo; (focus rfl)) | apply gv_u | apply gv_tt | apply gv_ff | apply gv_ft | apply gv_tf))
              exact ⟨(i + 1, v2, ol ++ [y] ++ [x]), ⟨by simp only; omega, by simp [e1], by simp [e2], by simp, by simp, by simpa using q2, hft.symm, by simp at hol ⊢; omega⟩, by simp only; omega⟩
            | true =>
              cases hvv : (y.v == x.v) with
              | false =>
                have hm : ¬ mergeS st y x = true := by simp [mergeS, hvv]
                rw [hap hm] at hft
                repeat (first
 | refine za ?_ | refine zb ?_ | refine zc ?_ | refine zd ?_ | refine ze ?_ | refine zf ?_ | refine zg ?_ | refine zh ?_ | (refine zi ?_; try refine RgD_plain rfl ?_) | refine w_drawn rfl ?_ | refine zj ?_ | refine zl ?_
 | ((first | apply zs | (apply zt; (focus rfl)) | (apply zu; (focus rfl)) | (apply zv; (focus rfl)) | apply zx | apply zy | apply zB | apply zC | apply zD | apply zE | apply zF); (focus ((conv => lhs; simp [e1, e2, e6, e5, hlt, hc, hgr, hgv, hcr, hxz, w1, w3, w4, hlo, hst, hcw, hyv, hvv]); first | done | rfl)); first | apply zk | (apply zn; (focus rfl); try (focus (first | rfl | (simp [e1, e2, e6, e5, hlt, hc, hgr, hgv, hcr, hxz, w1, w3, w4, hlo, hst, hcw, hyv, hvv]; done)))) | (apply zo; (focus rfl)) | apply gv_u | apply gv_tt | apply gv_ff | apply gv_ft | apply gv_tf))
                obtain ⟨v2, h2, q1, q2⟩ := (hg.push (.cells (sgC x) 58)).append (by_ := 40) (n := ol.length + 1) (m := 1) (x := .slice (some ⟨h'.size, 0, none⟩) 1 1) (l2 := sgC x) (by omega) (by simp [srcCells, sgC]) (by omega) (by rw [elems_len sgC_len]; simp) rfl (by simp at hol; omega) (by simp at hol; omega) rfl
                refine w_mem (v := v2) (h' := h2) rfl (by simpa [e5, sgC] using q1) ?_
                repeat (first
 | refine za ?_ | refine zb ?_ | refine zc ?_ | refine zd ?_ | refine ze ?_ | refine zf ?_ | refine zg ?_ | refine zh ?_ | (refine zi ?_; try refine RgD_plain rfl ?_) | refine w_drawn rfl ?_ | refine zj ?_ | refine zl ?_
 | ((first | apply zs | (apply zt; (focus rfl)) | (apply zu; (focus rfl)) | (apply zv; (focus rfl)) | apply zx | apply zy | apply zB | apply zC | apply zD | apply zE | apply zF); (focus ((conv => lhs; simp [e1, e2, e6, e5, w1]); first | done | rfl)); first | apply zk | (apply zn; (focus rfl); try (focus (first | rfl | (simp [e1, e2, e6, e5, w1]; done)))) | (apply zo; (focus rfl)) | apply gv_u | apply gv_tt | apply gv_ff | apply gv_ft | apply gv_tf))
                exact ⟨(i + 1, v2, ol ++ [y] ++ [x]), ⟨by simp only; omega, by simp [e1], by simp [e2], by simp, by simp, by simpa using q2, hft.symm, by simp at hol ⊢; omega⟩, by simp only; omega⟩
              | true =>
                cases hcc : (y.s.c == x.s.a && y.s.d == x.s.b) with
                | false =>
                  have hm : ¬ mergeS st y x = true := by rw [mergeS, hcc]; simp
                  rw [hap hm] at hft
                  repeat (first
 | refine za ?_ | refine zb ?_ | refine zc ?_ | refine zd ?_ | refine ze ?_ | refine zf ?_ | refine zg ?_ | refine zh ?_ | (refine zi ?_; try refine RgD_plain rfl ?_) | refine w_drawn rfl ?_ | refine zj ?_ | refine zl ?_
 | ((first | apply zs | (apply zt; (focus rfl)) | (apply zu; (focus rfl)) | (apply zv; (focus rfl)) | apply zx | apply zy | apply zB | apply zC | apply zD | apply zE | apply zF); (focus ((conv => lhs; simp [e1, e2, e6, e5, hlt, hc, hgr, hgv, hg2, hcr, hxz, w1, w3, w4, hlo, hst, hcw, hyv, hvv, hy2, hcc]); first | done | rfl)); first | apply zk | (apply zn; (focus rfl); try (focus (first | rfl | (simp [e1, e2, e6, e5, hlt, hc, hgr, hgv, hg2, hcr, hxz, w1, w3, w4, hlo, hst, hcw, hyv, hvv, hy2, hcc]; done)))) | (apply zo; (focus rfl)) | apply gv_u | apply gv_tt | apply gv_ff | apply gv_ft | apply gv_tf))
                  obtain ⟨v2, h2, q1, q2⟩ := (hg.push (.cells (sgC x) 58)).append (by_ := 40) (n := ol.length + 1) (m := 1) (x := .slice (some ⟨h'.size, 0, none⟩) 1 1) (l2 := sgC x) (by omega) (by simp [srcCells, sgC]) (by omega) (by rw [elems_len sgC_len]; simp) rfl (by simp at hol; omega) (by simp at hol; omega) rfl
                  refine w_mem (v := v2) (h' := h2) rfl (by simpa [e5, sgC] using q1) ?_
                  repeat (first
 | refine za ?_ | refine zb ?_ | refine zc ?_ | refine zd ?_ | refine ze ?_ | refine zf ?_ | refine zg ?_ | refine zh ?_ | (refine zi ?_; try refine RgD_plain rfl ?_) | refine w_drawn rfl ?_ | refine zj ?_ | refine zl ?_
 | ((first | apply zs | (apply zt; (focus rfl)) | (apply zu; (focus rfl)) | (apply zv; (focus rfl)) | apply zx | apply zy | apply zB | apply zC | apply zD | apply zE | apply zF); (focus ((conv => lhs; simp [e1, e2, e6, e5, w1]); first | done | rfl)); first | apply zk | (apply zn; (focus rfl); try (focus (first | rfl | (simp [e1, e2, e6, e5, w1]; done)))) | (apply zo; (focus rfl)) | apply gv_u | apply gv_tt | apply gv_ff | apply gv_ft | apply gv_tf))
                  exact ⟨(i + 1, v2, ol ++ [y] ++ [x]), ⟨by simp only; omega, by simp [e1], by simp [e2], by simp, by simp, by simpa using q2, hft.symm, by simp at hol ⊢; omega⟩, by simp only; omega⟩
                | true =>
                  have hm : mergeS st y x = true := by rw [mergeS, hst, hvv, hcc]; rfl
                  rw [addS_snoc, if_pos hm] at hft
                  have hwr : ∀ off vs, wr ⟨h.size, []⟩ h' bw off vs = if h.size ≤ bw ∧ vs.all one = true ∧ off + vs.length ≤ L.length then some (h'.setIfInBounds bw (.cells (putAt L off vs) 58)) else none := fun off vs => by rw [wr_def hbw]
                  have hlen : ol.length * 5 + 4 ≤ L.length := by rw [hL, elems_len sgC_len]; simp; omega
                  obtain ⟨L2, hL2⟩ : ∃ L, L = elems sgC (ol ++ [joined y x]) := ⟨_, rfl⟩
                  have hput : putAt L (ol.length * 5) [.int .i64 y.s.a, .int .i64 y.s.b, .int .i64 x.s.c, .int .i64 x.s.d] = L2 := by
                    have := last_put (o := ol) (y := y) (p := 0) (vs := [.int .i64 y.s.a, .int .i64 y.s.b, .int .i64 x.s.c, .int .i64 x.s.d])
                    rw [Nat.add_zero] at this; rw [hL, hL2, this]; simp [putAt, sgC, joined]
                  simp at hput
                  repeat (first
 | refine za ?_ | refine zb ?_ | refine zc ?_ | refine zd ?_ | refine ze ?_ | refine zf ?_ | refine zg ?_ | refine zh ?_ | (refine zi ?_; try refine RgD_plain rfl ?_) | refine w_drawn rfl ?_ | refine zj ?_ | refine zl ?_
 | ((first | apply zs | (apply zt; (focus rfl)) | (apply zu; (focus rfl)) | (apply zv; (focus rfl)) | apply zx | apply zy | apply zB | apply zC | apply zD | apply zE | apply zF); (focus ((conv => lhs; simp [e1, e2, e6, e5, hlt, hc, hgr, hgv, hg2, hg3, hcr, hxz, w1, w3, w4, hlo, hst, hcw, hyv, hvv, hy1, hy2, hcc, hwr, hlen, hfw, hput]); first | done | rfl)); first | apply zk | (apply zn; (focus rfl); try (focus (first | rfl | (simp [e1, e2, e6, e5, hlt, hc, hgr, hgv, hg2, hg3, hcr, hxz, w1, w3, w4, hlo, hst, hcw, hyv, hvv, hy1, hy2, hcc, hwr, hlen, hfw, hput]; done)))) | (apply zo; (focus rfl)) | apply gv_u | apply gv_tt | apply gv_ff | apply gv_ft | apply gv_tf))
                  have hbH : H.size ≤ bw := by
                    rcases hg.blk with q | ⟨b', q, hb'⟩
                    · cases q
                    · cases q; exact hb'
                  subst hL2
                  exact ⟨(i + 1, _, ol ++ [joined y x]), ⟨by simp only; omega, by simp [e1], by simp [e2], by simp, by simp [e5], hg.set (.inl hbH) (by rw [elems_len sgC_len, elems_len sgC_len]; simp) (elems_sg_one _), hft.symm, by simp at hol ⊢; omega⟩, by simp only; omega⟩
        | false =>
          have hxz : True := trivial
          rcases snoc_cases out with hnil | ⟨ol, y, hsn⟩
          · subst hnil
            have hrow : Row h' 58 5 w 0 (elems sgC []) := hg.buf.row (by omega) rfl
            obtain ⟨aw, cw, rfl⟩ := hrow.form
            have w3 : IntKind.i64.wrap (-1) = -1 := by decide
            cases hst : (st == 0) with
            | true =>
              repeat (first
 | refine za ?_ | refine zb ?_ | refine zc ?_ | refine zd ?_ | refine ze ?_ | refine zf ?_ | refine zg ?_ | refine zh ?_ | (refine zi ?_; try refine RgD_plain rfl ?_) | refine w_drawn rfl ?_ | refine zj ?_ | refine zl ?_
 | ((first | apply zs | (apply zt; (focus rfl)) | (apply zu; (focus rfl)) | (apply zv; (focus rfl)) | apply zx | apply zy | apply zB | apply zC | apply zD | apply zE | apply zF); (focus ((conv => lhs; simp [e1, e2, e6, e5, hlt, hc, hgr, hgv, hcr, hxz, w1, w3, hst]); first | done | rfl)); first | apply zk | (apply zn; (focus rfl); try (focus (first | rfl | (simp [e1, e2, e6, e5, hlt, hc, hgr, hgv, hcr, hxz, w1, w3, hst]; done)))) | (apply zo; (focus rfl)) | apply gv_u | apply gv_tt | apply gv_ff | apply gv_ft | apply gv_tf))
              obtain ⟨v2, h2, q1, q2⟩ := (hg.push (.cells (sgC x) 58)).append (by_ := 40) (n := 0) (m := 1) (x := .slice (some ⟨h'.size, 0, none⟩) 1 1) (l2 := sgC x) (by omega) (by simp [srcCells, sgC]) (by omega) rfl rfl (by omega) (by omega) rfl
              refine w_mem (v := v2) (h' := h2) rfl (by simpa [e5, sgC] using q1) ?_
              repeat (first
 | refine za ?_ | refine zb ?_ | refine zc ?_ | refine zd ?_ | refine ze ?_ | refine zf ?_ | refine zg ?_ | refine zh ?_ | (refine zi ?_; try refine RgD_plain rfl ?_) | refine w_drawn rfl ?_ | refine zj ?_ | refine zl ?_
 | ((first | apply zs | (apply zt; (focus rfl)) | (apply zu; (focus rfl)) | (apply zv; (focus rfl)) | apply zx | apply zy | apply zB | apply zC | apply zD | apply zE | apply zF); (focus ((conv => lhs; simp [e1, e2, e6, e5, w1]); first | done | rfl)); first | apply zk | (apply zn; (focus rfl); try (focus (first | rfl | (simp [e1, e2, e6, e5, w1]; done)))) | (apply zo; (focus rfl)) | apply gv_u | apply gv_tt | apply gv_ff | apply gv_ft | apply gv_tf))
              exact ⟨(i + 1, v2, [x]), ⟨by simp only; omega, by simp [e1], by simp [e2], by simp, by simp, by simpa using q2, by rw [hft]; simp [addS], by simp⟩, by simp only; omega⟩
            | false =>
              repeat (first
 | refine za ?_ | refine zb ?_ | refine zc ?_ | refine zd ?_ | refine ze ?_ | refine zf ?_ | refine zg ?_ | refine zh ?_ | (refine zi ?_; try refine RgD_plain rfl ?_) | refine w_drawn rfl ?_ | refine zj ?_ | refine zl ?_
 | ((first | apply zs | (apply zt; (focus rfl)) | (apply zu; (focus rfl)) | (apply zv; (focus rfl)) | apply zx | apply zy | apply zB | apply zC | apply zD | apply zE | apply zF); (focus ((conv => lhs; simp [e1, e2, e6, e5, hlt, hc, hgr, hgv, hcr, hxz, w1, w3, hst]); first | done | rfl)); first | apply zk | (apply zn; (focus rfl); try (focus (first | rfl | (simp [e1, e2, e6, e5, hlt, hc, hgr, hgv, hcr, hxz, w1, w3, hst]; done)))) | (apply zo; (focus rfl)) | apply gv_u | apply gv_tt | apply gv_ff | apply gv_ft | apply gv_tf))
              obtain ⟨v2, h2, q1, q2⟩ := (hg.push (.cells (sgC x) 58)).append (by_ := 40) (n := 0) (m := 1) (x := .slice (some ⟨h'.size, 0, none⟩) 1 1) (l2 := sgC x) (by omega) (by simp [srcCells, sgC]) (by omega) rfl rfl (by omega) (by omega) rfl
              refine w_mem (v := v2) (h' := h2) rfl (by simpa [e5, sgC] using q1) ?_
              repeat (first
 | refine za ?_ | refine zb ?_ | refine zc ?_ | refine zd ?_ | refine ze ?_ | refine zf ?_ | refine zg ?_ | refine zh ?_ | (refine zi ?_; try refine RgD_plain rfl ?_) | refine w_drawn rfl ?_ | refine zj ?_ | refine zl ?_
 | ((first | apply zs | (apply zt; (focus rfl)) | (apply zu; (focus rfl)) | (apply zv; (focus rfl)) | apply zx | apply zy | apply zB | apply zC | apply zD | apply zE | apply zF); (focus ((conv => lhs; simp [e1, e2, e6, e5, w1]); first | done | rfl)); first | apply zk | (apply zn; (focus rfl); try (focus (first | rfl | (simp [e1, e2, e6, e5, w1]; done)))) | (apply zo; (focus rfl)) | apply gv_u | apply gv_tt | apply gv_ff | apply gv_ft | apply gv_tf))
              exact ⟨(i + 1, v2, [x]), ⟨by simp only; omega, by simp [e1], by simp [e2], by simp, by simp, by simpa using q2, by rw [hft]; simp [addS], by simp⟩, by simp only; omega⟩
          · subst hsn
            obtain ⟨bw, n, rfl, hn, hbw, hcw, hbwl, hfw⟩ := hg.buf.cell (by simp [sgC])
            rw [elems_len sgC_len] at hn
            have hn' : n = ol.length + 1 := by simp at hn; omega
            subst hn'
            have w3 : IntKind.i64.wrap ((ol.length : Int) + 1 - 1) = ol.length := by rw [wrapI (by simp at hol; omega)]; omega
            have w4 : IntKind.i64.wrap (ol.length : Int) = ol.length := wrapI (by simp at hol; omega)
            have hlo : (ol.length : Int) < (ol.length : Int) + 1 := by omega
            obtain ⟨L, hL⟩ : ∃ L, L = elems sgC (ol ++ [y]) := ⟨_, rfl⟩
            have hyv : (elems sgC (ol ++ [y]))[ol.length * 5 + 4]? = some (.int .i64 y.v) := last_get (by omega)
            have hy1 : grab (elems sgC (ol ++ [y])) (ol.length * 5) 2 = some [.int .i64 y.s.a, .int .i64 y.s.b] := last_grab (p := 0) (m := 2) (by omega)
            have hy2 : grab (elems sgC (ol ++ [y])) (ol.length * 5 + 2) 2 = some [.int .i64 y.s.c, .int .i64 y.s.d] := last_grab (p := 2) (m := 2) (by omega)
            have hap : ¬ mergeS st y x = true → addS st (ol ++ [y]) x = ol ++ [y] ++ [x] := fun q => by rw [addS_snoc, if_neg q]
            rw [← hL] at hbw hcw hyv hy1 hy2
            cases hst : (st == 0) with
            | false =>
              have hm : ¬ mergeS st y x = true := by simp [mergeS, hst]
              rw [hap hm] at hft
              repeat (first
 | refine za ?_ | refine zb ?_ | refine zc ?_ | refine zd ?_ | refine ze ?_ | refine zf ?_ | refine zg ?_ | refine zh ?_ | (refine zi ?_; try refine RgD_plain rfl ?_) | refine w_drawn rfl ?_ | refine zj ?_ | refine zl ?_
 | ((first | apply zs | (apply zt; (focus rfl)) | (apply zu; (focus rfl)) | (apply zv; (focus rfl)) | apply zx | apply zy | apply zB | apply zC | apply zD | apply zE | apply zF); (focus ((conv => lhs; simp [e1, e2, e6, e5, hlt, hc, hgr, hgv, hcr, hxz, w1, w3, w4, hlo, hst]); first | done | rfl)); first | apply zk | (apply zn; (focus rfl); try (focus (first | rfl | (simp [e1, e2, e6, e5, hlt, hc, hgr, hgv, hcr, hxz, w1, w3, w4, hlo, hst]; done)))) | (apply zo; (focus rfl)) | apply gv_u | apply gv_tt | apply gv_ff | apply gv_ft | apply gv_tf))
              obtain ⟨v2, h2, q1, q2⟩ := (hg.push (.cells (sgC x) 58)).append (by_ := 40) (n := ol.length + 1) (m := 1) (x := .slice (some ⟨h'.size, 0, none⟩) 1 1) (l2 := sgC x) (by omega) (by simp [srcCells, sgC]) (by omega) (by rw [elems_len sgC_len]; simp) rfl (by simp at hol; omega) (by simp at hol; omega) rfl
              refine w_mem (v := v2) (h' := h2) rfl (by simpa [e5, sgC] using q1) ?_
              repeat (first
 | refine za ?_ | refine zb ?_ | refine zc ?_ | refine zd ?_ | refine ze ?_ | refine zf ?_ | refine zg ?_ | refine zh ?_ | (refine zi ?_; try refine RgD_plain rfl ?_) | refine w_drawn rfl ?_ | refine zj ?_ | refine zl ?_
 | ((first | apply zs | (apply zt; (focus rfl)) | (apply zu; (focus rfl)) | (apply zv; (focus rfl)) | apply zx | apply zy | apply zB | apply zC | apply zD | apply zE | apply zF); (focus ((conv => lhs; simp [e1, e2, e6, e5, w1]); first | done | rfl)); first | apply zk | (apply zn; (focus rfl); try (focus (first | rfl | (simp [e1, e2, e6, e5, w1]; done)))) | (apply zo; (focus rfl)) | apply gv_u | apply gv_tt | apply gv_ff | apply gv_ft | apply gv_tf))
              exact ⟨(i + 1, v2, ol ++ [y] ++ [x]), ⟨by simp only; omega, by simp [e1], by simp [e2], by simp, by simp, by simpa using q2, hft.symm, by simp at hol ⊢; omega⟩, by simp only; omega⟩
            | true =>
              cases hvv : (y.v == x.v) with
              | false =>
                have hm : ¬ mergeS st y x = true := by simp [mergeS, hvv]
                rw [hap hm] at hft
                repeat (first
 | refine za ?_ | refine zb ?_ | refine zc ?_ | refine zd ?_ | refine ze ?_ | refine zf ?_ | refine zg ?_ | refine zh ?_ | (refine zi ?_; try refine RgD_plain rfl ?_) | refine w_drawn rfl ?_ | refine zj ?_ | refine zl ?_
 | ((first | apply zs | (apply zt; (focus rfl)) | (apply zu; (focus rfl)) | (apply zv; (focus rfl)) | apply zx | apply zy | apply zB | apply zC | apply zD | apply zE | apply zF); (focus ((conv => lhs; simp [e1, e2, e6, e5, hlt, hc, hgr, hgv, hcr, hxz, w1, w3, w4, hlo, hst, hcw, hyv, hvv]); first | done | rfl)); first | apply zk | (apply zn; (focus rfl); try (focus (first | rfl | (simp [e1, e2, e6, e5, hlt, hc, hgr, hgv, hcr, hxz, w1, w3, w4, hlo, hst, hcw, hyv, hvv]; done)))) | (apply zo; (focus rfl)) | apply gv_u | apply gv_tt | apply gv_ff | apply gv_ft | apply gv_tf))
                obtain ⟨v2, h2, q1, q2⟩ := (hg.push (.cells (sgC x) 58)).append (by_ := 40) (n := ol.length + 1) (m := 1) (x := .slice (some ⟨h'.size, 0, none⟩) 1 1) (l2 := sgC x) (by omega) (by simp [srcCells, sgC]) (by omega) (by rw [elems_len sgC_len]; simp) rfl (by simp at hol; omega) (by simp at hol; omega) rfl
                refine w_mem (v := v2) (h' := h2) rfl (by simpa [e5, sgC] using q1) ?_
                repeat (first
 | refine za ?_ | refine zb ?_ | refine zc ?_ | refine zd ?_ | refine ze ?_ | refine zf ?_ | refine zg ?_ | refine zh ?_ | (refine zi ?_; try refine RgD_plain rfl ?_) | refine w_drawn rfl ?_ | refine zj ?_ | refine zl ?_
 | ((first | apply zs | (apply zt; (focus rfl)) | (apply zu; (focus rfl)) | (apply zv; (focus rfl)) | apply zx | apply zy | apply zB | apply zC | apply zD | apply zE | apply zF); (focus ((conv => lhs; simp [e1, e2, e6, e5, w1]); first | done | rfl)); first | apply zk | (apply zn; (focus rfl); try (focus (first | rfl | (simp [e1, e2, e6, e5, w1]; done)))) | (apply zo; (focus rfl)) | apply gv_u | apply gv_tt | apply gv_ff | apply gv_ft | apply gv_tf))
                exact ⟨(i + 1, v2, ol ++ [y] ++ [x]), ⟨by simp only; omega, by simp [e1], by simp [e2], by simp, by simp, by simpa using q2, hft.symm, by simp at hol ⊢; omega⟩, by simp only; omega⟩
              | true =>
                cases hcc : (y.s.c == x.s.a && y.s.d == x.s.b) with
                | false =>
                  have hm : ¬ mergeS st y x = true := by rw [mergeS, hcc]; simp
                  rw [hap hm] at hft
                  repeat (first
 | refine za ?_ | refine zb ?_ | refine zc ?_ | refine zd ?_ | refine ze ?_ | refine zf ?_ | refine zg ?_ | refine zh ?_ | (refine zi ?_; try refine RgD_plain rfl ?_) | refine w_drawn rfl ?_ | refine zj ?_ | refine zl ?_
 | ((first | apply zs | (apply zt; (focus rfl)) | (apply zu; (focus rfl)) | (apply zv; (focus rfl)) | apply zx | apply zy | apply zB | apply zC | apply zD | apply zE | apply zF); (focus ((conv => lhs; simp [e1, e2, e6, e5, hlt, hc, hgr, hgv, hg2, hcr, hxz, w1, w3, w4, hlo, hst, hcw, hyv, hvv, hy2, hcc]); first | done | rfl)); first | apply zk | (apply zn; (focus rfl); try (focus (first | rfl | (simp [e1, e2, e6, e5, hlt, hc, hgr, hgv, hg2, hcr, hxz, w1, w3, w4, hlo, hst, hcw, hyv, hvv, hy2, hcc]; done)))) | (apply zo; (focus rfl)) | apply gv_u | apply gv_tt | apply gv_ff | apply gv_ft | apply gv_tf))
                  obtain ⟨v2, h2, q1, q2⟩ := (hg.push (.cells (sgC x) 58)).append (by_ := 40) (n := ol.length + 1) (m := 1) (x := .slice (some ⟨h'.size, 0, none⟩) 1 1) (l2 := sgC x) (by omega) (by simp [srcCells, sgC]) (by omega) (by rw [elems_len sgC_len]; simp) rfl (by simp at hol; omega) (by simp at hol; omega) rfl
                  refine w_mem (v := v2) (h' := h2) rfl (by simpa [e5, sgC] using q1) ?_
                  repeat (first
 | refine za ?_ | refine zb ?_ | refine zc ?_ | refine zd ?_ | refine ze ?_ | refine zf ?_ | refine zg ?_ | refine zh ?_ | (refine zi ?_; try refine RgD_plain rfl ?_) | refine w_drawn rfl ?_ | refine zj ?_ | refine zl ?_
 | ((first | apply zs | (apply zt; (focus rfl)) | (apply zu; (focus rfl)) | (apply zv; (focus rfl)) | apply zx | apply zy | apply zB | apply zC | apply zD | apply zE | apply zF); (focus ((conv => lhs; simp [e1, e2, e6, e5, w1]); first | done | rfl)); first | apply zk | (apply zn; (focus rfl); try (focus (first | rfl | (simp [e1, e2, e6, e5, w1]; done)))) | (apply zo; (focus rfl)) | apply gv_u | apply gv_tt | apply gv_ff | apply gv_ft | apply gv_tf))
                  exact ⟨(i + 1, v2, ol ++ [y] ++ [x]), ⟨by simp only; omega, by simp [e1], by simp [e2], by simp, by simp, by simpa using q2, hft.symm, by simp at hol ⊢; omega⟩, by simp only; omega⟩
                | true =>
                  have hm : mergeS st y x = true := by rw [mergeS, hst, hvv, hcc]; rfl
                  rw [addS_snoc, if_pos hm] at hft
                  have hwr : ∀ off vs, wr ⟨h.size, []⟩ h' bw off vs = if h.size ≤ bw ∧ vs.all one = true ∧ off + vs.length ≤ L.length then some (h'.setIfInBounds bw (.cells (putAt L off vs) 58)) else none := fun off vs => by rw [wr_def hbw]
                  have hlen : ol.length * 5 + 4 ≤ L.length := by rw [hL, elems_len sgC_len]; simp; omega
                  obtain ⟨L2, hL2⟩ : ∃ L, L = elems sgC (ol ++ [joined y x]) := ⟨_, rfl⟩
                  have hput : putAt L (ol.length * 5) [.int .i64 y.s.a, .int .i64 y.s.b, .int .i64 x.s.c, .int .i64 x.s.d] = L2 := by
                    have := last_put (o := ol) (y := y) (p := 0) (vs := [.int .i64 y.s.a, .int .i64 y.s.b, .int .i64 x.s.c, .int .i64 x.s.d])
                    rw [Nat.add_zero] at this; rw [hL, hL2, this]; simp [putAt, sgC, joined]
                  simp at hput
                  repeat (first
 | refine za ?_ | refine zb ?_ | refine zc ?_ | refine zd ?_ | refine ze ?_ | refine zf ?_ | refine zg ?_ | refine zh ?_ | (refine zi ?_; try refine RgD_plain rfl ?_) | refine w_drawn rfl ?_ | refine zj ?_ | refine zl ?_
 | ((first | apply zs | (apply zt; (focus rfl)) | (apply zu; (focus rfl)) | (apply zv; (focus rfl)) | apply zx | apply zy | apply zB | apply zC | apply zD | apply zE | apply zF); (focus ((conv => lhs; simp [e1, e2, e6, e5, hlt, hc, hgr, hgv, hg2, hg3, hcr, hxz, w1, w3, w4, hlo, hst, hcw, hyv, hvv, hy1, hy2, hcc, hwr, hlen, hfw, hput]); first | done | rfl)); first | apply zk | (apply zn; (focus rfl); try (focus (first | rfl | (simp [e1, e2, e6, e5, hlt, hc, hgr, hgv, hg2, hg3, hcr, hxz, w1, w3, w4, hlo, hst, hcw, hyv, hvv, hy1, hy2, hcc, hwr, hlen, hfw, hput]; done)))) | (apply zo; (focus rfl)) | apply gv_u | apply gv_tt | apply gv_ff | apply gv_ft | apply gv_tf))
                  have hbH : H.size ≤ bw := by
                    rcases hg.blk with q | ⟨b', q, hb'⟩
                    · cases q
                    · cases q; exact hb'
                  subst hL2
                  exact ⟨(i + 1, _, ol ++ [joined y x]), ⟨by simp only; omega, by simp [e1], by simp [e2], by simp, by simp [e5], hg.set (.inl hbH) (by rw [elems_len sgC_len, elems_len sgC_len]; simp) (elems_sg_one _), hft.symm, by simp at hol ⊢; omega⟩, by simp only; omega⟩
    · have hh : xs.take i = xs := List.take_of_length_le (by omega)
      rw [hh] at hout
      obtain ⟨v', h2, q1, q2, q3, q4⟩ := finish_buf (f := f) (h0 := h) (n := out.length) hg.buf (by omega) (by rw [elems_len sgC_len]) hf (all_below_ints (elems_ints sgC_ints _))
      repeat (first
 | refine za ?_ | refine zb ?_ | refine zc ?_ | refine zd ?_ | refine ze ?_ | refine zf ?_ | refine zg ?_ | refine zh ?_ | (refine zi ?_; try refine RgD_plain rfl ?_) | refine w_drawn rfl ?_ | refine zj ?_ | refine zl ?_
 | ((first | apply zs | (apply zt; (focus rfl)) | (apply zu; (focus rfl)) | (apply zv; (focus rfl)) | apply zx | apply zy | apply zB | apply zC | apply zD | apply zE | apply zF); (focus ((conv => lhs; simp [e1, e2, e6, e5, hlt]); first | done | rfl)); first | apply zk | (apply zn; (focus rfl); try (focus (first | rfl | (simp [e1, e2, e6, e5, hlt]; done)))) | (apply zo; (focus rfl)) | apply gv_u | apply gv_tt | apply gv_ff | apply gv_ft | apply gv_tf))
      rw [← hout]
      exact w_endr (vs := [w]) (by simp [e5]) q1 ⟨q2, q3, q4⟩
end Go.Proofs.YtmjaanhphkbkeaaGreat
end
