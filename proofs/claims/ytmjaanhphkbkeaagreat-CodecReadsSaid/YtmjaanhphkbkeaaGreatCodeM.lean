import Derived.Test.YtmjaanhphkbkeaaGreatCodeL
set_option linter.all false
section
namespace Go.Proofs.YtmjaanhphkbkeaaGreat
open Go.AM
set_option linter.unusedSimpArgs false
set_option linter.unusedVariables false
variable {f : Nat} {h : Heap}
def segS (l : List Nat) (s : St) : Sg × St := (⟨(spanS l s).1, (numS l (spanS l s).2).1⟩, (numS l (spanS l s).2).2)
def rowsNM (l : List Nat) : Nat → St → List Sg × St
  | 0, s => ([], s)
  | n + 1, s => if (segS l s).2.2 then ([], (segS l s).2) else ((segS l s).1 :: (rowsNM l n (segS l s).2).1, (rowsNM l n (segS l s).2).2)
def rowsSM (l : List Nat) (s : St) : (List Sg × Nat) × St :=
  let s1 := onS s (if (readNum (l.drop s.1)).1 < 0 then 0 else (readNum (l.drop s.1)).2)
  if s1.2 then (([], s1.1), s1) else
  let r := rowsNM l (readNum (l.drop s.1)).1.toNat s1
  if r.2.2 then (([], s1.1), r.2) else ((r.1, s1.1), r.2)

theorem segS_more {l : List Nat} {s : St} (h : (segS l s).2.2 = false) : s.2 = false ∧ s.1 < (segS l s).2.1 := by
  unfold segS numS at *
  simp only at *
  obtain ⟨h1, h2, h3⟩ := onS_more h
  obtain ⟨h4, h5⟩ := spanS_more h1
  exact ⟨h4, by omega⟩
theorem sgC_one (s : Sg) : (sgC s).all one = true := rfl
theorem numR_runs {p : Nat} {v : Value} {l : List Nat} {s : St} (r : Rdr f h p v l s) :
    callR X ⟨f, []⟩ 31 [.pointer (some ⟨p, 0, none⟩)] h fun n h' => n = .int .i64 (numS l s).1 ∧ Rdr f h' p v l (numS l s).2 ∧ KeepB h h' (some p) := by
  have hc := r.cells
  have hlen := r.len
  have hat := r.at_
  have hrow := r.row
  obtain ⟨a, c, rfl⟩ := r.row.form
  refine callR_of rfl f31_is ?_
  simp only [f31r0, f31r1, f31r2, f31r3, f31b]
  obtain ⟨s1, s2⟩ := hrow.from hat
  have hrl := readNum_len (l.drop s.1)
  rw [List.length_drop] at hrl
  repeat (first
 | refine za ?_ | refine zb ?_ | refine zc ?_ | refine zd ?_ | refine ze ?_ | refine zf ?_ | refine zg ?_ | refine zh ?_ | (refine zi ?_; try refine RgD_plain rfl ?_) | refine w_drawn rfl ?_ | refine zj ?_ | refine zl ?_
 | ((first | apply zs | (apply zt; (focus rfl)) | (apply zu; (focus rfl)) | (apply zv; (focus rfl)) | apply zw | apply zx | apply zy | apply zB | apply zC | apply zD | apply zE | apply zF); (focus ((conv => lhs; simp [hc, s1]); first | done | rfl)); first | apply zk | (apply zn; (focus rfl); try (focus (first | rfl | (simp [hc, s1]; done)))) | (apply zo; (focus rfl)) | apply gv_u | apply gv_tt | apply gv_ff | apply gv_ft | apply gv_tf | exact (readNum_runs s2 (by rw [List.length_drop]; omega) (fun x hx => r.by_ x (List.mem_of_mem_drop hx)))))
  (apply zW; (focus ((conv => lhs; simp); first | done | rfl)); (focus exact on_runs (long := (readNum (l.drop s.1)).2) r (by omega))); intro v' h' q
  obtain ⟨q1, q2⟩ := q
  repeat (first
 | refine za ?_ | refine zb ?_ | refine zc ?_ | refine zd ?_ | refine ze ?_ | refine zf ?_ | refine zg ?_ | refine zh ?_ | (refine zi ?_; try refine RgD_plain rfl ?_) | refine w_drawn rfl ?_ | refine zj ?_ | refine zl ?_
 | ((first | apply zs | (apply zt; (focus rfl)) | (apply zu; (focus rfl)) | (apply zv; (focus rfl)) | apply zx | apply zy | apply zB | apply zC | apply zD | apply zE | apply zF); (focus ((conv => lhs; simp); first | done | rfl)); first | apply zk | (apply zn; (focus rfl); try (focus (first | rfl | (simp; done)))) | (apply zo; (focus rfl)) | apply gv_u | apply gv_tt | apply gv_ff | apply gv_ft | apply gv_tf))
  exact ⟨rfl, q1, q2⟩
theorem segR_runs {p : Nat} {v : Value} {l : List Nat} {s : St} (r : Rdr f h p v l s) {pb : Nat} (hpbl : pb < h.size) (hpb : h.cellsAt pb = some [.pointer (some ⟨p, 0, none⟩)]) (hpbp : ¬ pb = p) :
    callR X ⟨f, []⟩ 33 [.pointer (some ⟨pb, 0, none⟩)] h fun n h' => n = .agg #[.int .i64 (segS l s).1.s.a, .int .i64 (segS l s).1.s.b, .int .i64 (segS l s).1.s.c, .int .i64 (segS l s).1.s.d, .int .i64 (segS l s).1.v] ∧ Rdr f h' p v l (segS l s).2 ∧ KeepB h h' (some p) := by
  have hlt := r.lt
  have hfp := r.fp
  refine callR_of rfl f33_is ?_
  simp only [f33r0, f33r1, f33r2, f33b]
  have hfs : f ≤ h.size := by omega
  have n1 : ¬ pb = h.size := by omega
  repeat (first
 | refine za ?_ | refine zb ?_ | refine zc ?_ | refine zd ?_ | refine ze ?_ | refine zf ?_ | refine zg ?_ | refine zh ?_ | (refine zi ?_; try refine RgD_plain rfl ?_) | refine w_drawn rfl ?_ | refine zj ?_ | refine zl ?_
 | ((first | apply zs | (apply zt; (focus rfl)) | (apply zu; (focus rfl)) | (apply zv; (focus rfl)) | apply zx | apply zy | apply zB | apply zC | apply zD | apply zE | apply zF); (focus ((conv => lhs; simp [hpb, n1]); first | done | rfl)); first | apply zk | (apply zn; (focus rfl); try (focus (first | rfl | (simp [hpb, n1]; done)))) | (apply zo; (focus rfl)) | apply gv_u | apply gv_tt | apply gv_ff | apply gv_ft | apply gv_tf))
  (apply zW; (focus ((conv => lhs; simp); first | done | rfl)); (focus exact spanR_runs (r.push _))); intro v1 h1 q
  obtain ⟨q0, q1, q2⟩ := q
  subst q0
  have hsz := q2.1
  simp at hsz
  have hf' : f ≤ h1.size := by omega
  have hpb1 : h1.cellsAt pb = some [.pointer (some ⟨p, 0, none⟩)] := by rw [q2.cells (by simp; omega) (by simp; omega), cellsAt_push, if_neg n1, hpb]
  have n2 : ¬ pb = h1.size := by omega
  repeat (first
 | refine za ?_ | refine zb ?_ | refine zc ?_ | refine zd ?_ | refine ze ?_ | refine zf ?_ | refine zg ?_ | refine zh ?_ | (refine zi ?_; try refine RgD_plain rfl ?_) | refine w_drawn rfl ?_ | refine zj ?_ | refine zl ?_
 | ((first | apply zs | (apply zt; (focus rfl)) | (apply zu; (focus rfl)) | (apply zv; (focus rfl)) | apply zx | apply zy | apply zB | apply zC | apply zD | apply zE | apply zF); (focus ((conv => lhs; simp [hf', hpb1, n2]); first | done | rfl)); first | apply zk | (apply zn; (focus rfl); try (focus (first | rfl | (simp [hf', hpb1, n2]; done)))) | (apply zo; (focus rfl)) | apply gv_u | apply gv_tt | apply gv_ff | apply gv_ft | apply gv_tf))
  (apply zW; (focus ((conv => lhs; simp); first | done | rfl)); (focus exact numR_runs (q1.push _))); intro v2 h2 q
  obtain ⟨q3, q4, q5⟩ := q
  subst q3
  have hsz5 := q5.1
  simp at hsz5
  have o1 : h2[h.size]? = some (.cells [.int .i64 0, .int .i64 0, .int .i64 0, .int .i64 0, .int .i64 0] 58) := by rw [q5.2 _ (by simp; omega) (by simp; omega), Array.getElem?_push, if_neg (by omega), q2.2 _ (by simp) (by simp; omega), Array.getElem?_push, if_pos rfl]
  have o2 : h2.cellsAt h1.size = some [.int .i64 (spanS l s).1.a, .int .i64 (spanS l s).1.b, .int .i64 (spanS l s).1.c, .int .i64 (spanS l s).1.d] := by rw [q5.cells (by simp) (by simp; omega)]; simp
  have hw1 : ∀ off vs, wr ⟨f, []⟩ h2 h.size off vs = if f ≤ h.size ∧ vs.all one = true ∧ off + vs.length ≤ 5 then some (h2.setIfInBounds h.size (.cells (putAt [.int .i64 0, .int .i64 0, .int .i64 0, .int .i64 0, .int .i64 0] off vs) 58)) else none := fun off vs => by rw [wr_def o1]; rfl
  have hz : h.size < h2.size := by omega
  repeat (first
 | refine za ?_ | refine zb ?_ | refine zc ?_ | refine zd ?_ | refine ze ?_ | refine zf ?_ | refine zg ?_ | refine zh ?_ | (refine zi ?_; try refine RgD_plain rfl ?_) | refine w_drawn rfl ?_ | refine zj ?_ | refine zl ?_
 | ((first | apply zs | (apply zt; (focus rfl)) | (apply zu; (focus rfl)) | (apply zv; (focus rfl)) | apply zx | apply zy | apply zB | apply zC | apply zD | apply zE | apply zF); (focus ((conv => lhs; simp [o2, hw1, hfs, hz]); first | done | rfl)); first | apply zk | (apply zn; (focus rfl); try (focus (first | rfl | (simp [o2, hw1, hfs, hz]; done)))) | (apply zo; (focus rfl)) | apply gv_u | apply gv_tt | apply gv_ff | apply gv_ft | apply gv_tf))
  refine ⟨rfl, q4.setO (by omega) (fun q => by have := r.row.blt q; omega), ((((KeepB.refl h (some p)).push _).trans q2).trans (((KeepB.refl _ (some p)).push _).trans q5)).set _ (.inl (Nat.le_refl _))⟩
theorem rowsM_runs {p : Nat} {v : Value} {l : List Nat} {s : St} (r : Rdr f h p v l s) {pb : Nat} (hpbl : pb < h.size) (hpb : h.cellsAt pb = some [.pointer (some ⟨p, 0, none⟩)]) (hpbp : ¬ pb = p) :
    callR X ⟨f, []⟩ 32 [.pointer (some ⟨p, 0, none⟩), .func (.func 33) #[] #[.pointer (some ⟨pb, 0, none⟩)]] h fun n h' => ∃ w, n = .tuple #[w, .int .i64 (rowsSM l s).1.2] ∧ Buf f h' 58 5 w (elems sgC (rowsSM l s).1.1) ∧ (blk w = none ∨ ∃ b, blk w = some b ∧ h.size ≤ b) ∧ Rdr f h' p v l (rowsSM l s).2 ∧ KeepB h h' (some p) ∧ (rowsSM l s).1.1.length ≤ 100000 := by
  have hc := r.cells
  have hlen := r.len
  have hat := r.at_
  have hlt := r.lt
  have hfp := r.fp
  have hrow := r.row
  obtain ⟨a, c, rfl⟩ := r.row.form
  have hbv : ∀ b, blk (.slice a l.length c) = some b → b < h.size := fun b q => hrow.blt q
  obtain ⟨s1, s2⟩ := hrow.from hat
  have hrl := readNum_len (l.drop s.1)
  rw [List.length_drop] at hrl
  have hrg := readNum_rng (l.drop s.1)
  refine callR_of rfl f32_is ?_
  simp only [f32r0, f32r1, f32r2, f32r3, f32r4, f32r5, f32r6, f32r7, f32r8, f32r9, f32r10, f32r11, f32r12, f32r13, f32r14, f32r15, f32l16, f32r17, f32b]
  -- behind the number
  by_cases hneg : (readNum (l.drop s.1)).1 < 0
  · have t0 : decide ((readNum (l.drop s.1)).1 < 0) = true := by simp [hneg]
    repeat (first
 | refine za ?_ | refine zb ?_ | refine zc ?_ | refine zd ?_ | refine ze ?_ | refine zf ?_ | refine zg ?_ | refine zh ?_ | (refine zi ?_; try refine RgD_plain rfl ?_) | refine w_drawn rfl ?_ | refine zj ?_ | refine zl ?_
 | ((first | apply zs | (apply zt; (focus rfl)) | (apply zu; (focus rfl)) | (apply zv; (focus rfl)) | apply zw | apply zx | apply zy | apply zB | apply zC | apply zD | apply zE | apply zF); (focus ((conv => lhs; simp [hc, s1, t0]); first | done | rfl)); first | apply zk | (apply zn; (focus rfl); try (focus (first | rfl | (simp [hc, s1, t0]; done)))) | (apply zo; (focus rfl)) | apply gv_u | apply gv_tt | apply gv_ff | apply gv_ft | apply gv_tf | exact (readNum_runs s2 (by rw [List.length_drop]; omega) (fun x hx => r.by_ x (List.mem_of_mem_drop hx)))))
    (apply zW; (focus ((conv => lhs; simp); first | done | rfl)); (focus exact on_runs (long := 0) r (by omega))); intro v' h' q
    obtain ⟨q1, q2⟩ := q
    have e : rowsSM l s = (([], s.1), (s.1, true)) := by simp [rowsSM, hneg, onS]
    have eo : onS s 0 = (s.1, true) := by simp [onS]
    rw [eo] at q1
    have hc' := q1.cells
    rw [e]
    repeat (first
 | refine za ?_ | refine zb ?_ | refine zc ?_ | refine zd ?_ | refine ze ?_ | refine zf ?_ | refine zg ?_ | refine zh ?_ | (refine zi ?_; try refine RgD_plain rfl ?_) | refine w_drawn rfl ?_ | refine zj ?_ | refine zl ?_
 | ((first | apply zs | (apply zt; (focus rfl)) | (apply zu; (focus rfl)) | (apply zv; (focus rfl)) | apply zx | apply zy | apply zB | apply zC | apply zD | apply zE | apply zF); (focus ((conv => lhs; simp [hc']); first | done | rfl)); first | apply zk | (apply zn; (focus rfl); try (focus (first | rfl | (simp [hc']; done)))) | (apply zo; (focus rfl)) | apply gv_u | apply gv_tt | apply gv_ff | apply gv_ft | apply gv_tf))
    exact ⟨_, rfl, .inl ⟨rfl, rfl⟩, .inl rfl, q1, q2, by simp⟩
  · have t0 : decide ((readNum (l.drop s.1)).1 < 0) = false := by simp; omega
    repeat (first
 | refine za ?_ | refine zb ?_ | refine zc ?_ | refine zd ?_ | refine ze ?_ | refine zf ?_ | refine zg ?_ | refine zh ?_ | (refine zi ?_; try refine RgD_plain rfl ?_) | refine w_drawn rfl ?_ | refine zj ?_ | refine zl ?_
 | ((first | apply zs | (apply zt; (focus rfl)) | (apply zu; (focus rfl)) | (apply zv; (focus rfl)) | apply zw | apply zx | apply zy | apply zB | apply zC | apply zD | apply zE | apply zF); (focus ((conv => lhs; simp [hc, s1, t0]); first | done | rfl)); first | apply zk | (apply zn; (focus rfl); try (focus (first | rfl | (simp [hc, s1, t0]; done)))) | (apply zo; (focus rfl)) | apply gv_u | apply gv_tt | apply gv_ff | apply gv_ft | apply gv_tf | exact (readNum_runs s2 (by rw [List.length_drop]; omega) (fun x hx => r.by_ x (List.mem_of_mem_drop hx)))))
    (apply zW; (focus ((conv => lhs; simp); first | done | rfl)); (focus exact on_runs (long := (readNum (l.drop s.1)).2) r (by omega))); intro v' h' q
    obtain ⟨q1, q2⟩ := q
    cases ham : (onS s (readNum (l.drop s.1)).2).2 with
    | true =>
      have e : rowsSM l s = (([], (onS s (readNum (l.drop s.1)).2).1), onS s (readNum (l.drop s.1)).2) := by simp [rowsSM, hneg, ham]
      have hc' := q1.cells
      rw [e]
      repeat (first
 | refine za ?_ | refine zb ?_ | refine zc ?_ | refine zd ?_ | refine ze ?_ | refine zf ?_ | refine zg ?_ | refine zh ?_ | (refine zi ?_; try refine RgD_plain rfl ?_) | refine w_drawn rfl ?_ | refine zj ?_ | refine zl ?_
 | ((first | apply zs | (apply zt; (focus rfl)) | (apply zu; (focus rfl)) | (apply zv; (focus rfl)) | apply zx | apply zy | apply zB | apply zC | apply zD | apply zE | apply zF); (focus ((conv => lhs; simp [hc', ham]); first | done | rfl)); first | apply zk | (apply zn; (focus rfl); try (focus (first | rfl | (simp [hc', ham]; done)))) | (apply zo; (focus rfl)) | apply gv_u | apply gv_tt | apply gv_ff | apply gv_ft | apply gv_tf))
      exact ⟨_, rfl, .inl ⟨rfl, rfl⟩, .inl rfl, q1, q2, by simp⟩
    | false =>
      have hc' := q1.cells
      generalize hs1 : onS s (readNum (l.drop s.1)).2 = st at *
      have e : rowsSM l s = if (rowsNM l (readNum (l.drop s.1)).1.toNat st).2.2 then (([], st.1), (rowsNM l (readNum (l.drop s.1)).1.toNat st).2) else (((rowsNM l (readNum (l.drop s.1)).1.toNat st).1, st.1), (rowsNM l (readNum (l.drop s.1)).1.toNat st).2) := by
        simp [rowsSM, hneg, hs1, ham]
      rw [e]
      generalize hn : (readNum (l.drop s.1)).1 = n at *
      repeat (first
 | refine za ?_ | refine zb ?_ | refine zc ?_ | refine zd ?_ | refine ze ?_ | refine zf ?_ | refine zg ?_ | refine zh ?_ | (refine zi ?_; try refine RgD_plain rfl ?_) | refine w_drawn rfl ?_ | refine zj ?_ | refine zl ?_
 | ((first | apply zs | (apply zt; (focus rfl)) | (apply zu; (focus rfl)) | (apply zv; (focus rfl)) | apply zx | apply zy | apply zB | apply zC | apply zD | apply zE | apply zF); (focus ((conv => lhs; simp [hc', ham]); first | done | rfl)); first | apply zk | (apply zn; (focus rfl); try (focus (first | rfl | (simp [hc', ham]; done)))) | (apply zo; (focus rfl)) | apply gv_u | apply gv_tt | apply gv_ff | apply gv_ft | apply gv_tf))

      refine w_loop (A := Nat × Value × List Sg × St) (fun A env h' => A.1 ≤ n.toNat ∧ env 0 = .pointer (some ⟨p, 0, none⟩) ∧ env 1 = .func (.func 33) #[] #[.pointer (some ⟨pb, 0, none⟩)] ∧ env 41 = .int .i64 n ∧ env 42 = .int .i64 A.1 ∧ env 8 = .int .i64 st.1 ∧ env 9 = A.2.1 ∧
        Rdr f h' p (.slice a l.length c) l A.2.2.2 ∧ A.2.2.2.2 = false ∧ Buf f h' 58 5 A.2.1 (elems sgC A.2.2.1) ∧ KeepB h h' (some p) ∧ (blk A.2.1 = none ∨ ∃ b, blk A.2.1 = some b ∧ h.size ≤ b) ∧ A.2.2.1.length = A.1 ∧ A.1 ≤ A.2.2.2.1 ∧
        rowsNM l n.toNat st = (A.2.2.1 ++ (rowsNM l (n.toNat - A.1) A.2.2.2).1, (rowsNM l (n.toNat - A.1) A.2.2.2).2)) (fun A => l.length - A.2.2.2.1) (a0 := (0, .slice none 0 0, [], st))
        ⟨by simp, by simp, by simp, by simp, by simp, by simp, by simp, q1, ham, .inl ⟨rfl, rfl⟩, q2, .inl rfl, rfl, by simp, by simp⟩ ?_
      rintro ⟨k, w, xs, s3⟩ env h3 ⟨hk, e0, e1, e41, e42, e8, e9, hr3, ham3, hb3, hk3, hbl, hxl, hks, hrn⟩
      simp only at hk e0 e1 e41 e42 e8 e9 hr3 ham3 hb3 hk3 hbl hxl hks hrn
      have hn0 : 0 ≤ n := by omega
      by_cases hkn : k < n.toNat
      · have t1 : decide ((k : Int) < n) = true := by simp; omega
        have hd : n.toNat - k = (n.toNat - (k + 1)) + 1 := by omega
        rw [hd, rowsNM] at hrn
        repeat (first
 | refine za ?_ | refine zb ?_ | refine zc ?_ | refine zd ?_ | refine ze ?_ | refine zf ?_ | refine zg ?_ | refine zh ?_ | (refine zi ?_; try refine RgD_plain rfl ?_) | refine w_drawn rfl ?_ | refine zj ?_ | refine zl ?_
 | ((first | apply zs | (apply zt; (focus rfl)) | (apply zu; (focus rfl)) | (apply zv; (focus rfl)) | apply zx | apply zy | apply zB | apply zC | apply zD | apply zE | apply zF); (focus ((conv => lhs; simp [e0, e1, e41, e42, e8, e9, t1]); first | done | rfl)); first | apply zk | (apply zn; (focus rfl); try (focus (first | rfl | (simp [e0, e1, e41, e42, e8, e9, t1]; done)))) | (apply zo; (focus rfl)) | apply gv_u | apply gv_tt | apply gv_ff | apply gv_ft | apply gv_tf))
        (apply zW; (focus ((conv => lhs; simp [e0, e1, e41, e42, e8, e9]); first | done | rfl)); (focus exact segR_runs hr3 (by have := hk3.1; omega) (by rw [hk3.cells hpbl (by simp; omega), hpb]) hpbp)); intro v' h' q
        obtain ⟨q3, q4, q5⟩ := q
        subst q3
        have hf' : f ≤ h'.size := by have := q4.lt; omega
        have hc4 := q4.cells
        have np : ¬ p = h'.size := by have := q4.lt; omega
        cases ham4 : (segS l s3).2.2 with
        | true =>
          rw [ham4] at hrn
          simp only [if_true] at hrn
          have hz : (rowsNM l n.toNat st).2.2 = true := by rw [hrn]; exact ham4
          rw [if_pos hz]
          repeat (first
 | refine za ?_ | refine zb ?_ | refine zc ?_ | refine zd ?_ | refine ze ?_ | refine zf ?_ | refine zg ?_ | refine zh ?_ | (refine zi ?_; try refine RgD_plain rfl ?_) | refine w_drawn rfl ?_ | refine zj ?_ | refine zl ?_
 | ((first | apply zs | (apply zt; (focus rfl)) | (apply zu; (focus rfl)) | (apply zv; (focus rfl)) | apply zx | apply zy | apply zB | apply zC | apply zD | apply zE | apply zF); (focus ((conv => lhs; simp [e0, e1, e41, e42, e8, e9, hc4, ham4, np, hf']); first | done | rfl)); first | apply zk | (apply zn; (focus rfl); try (focus (first | rfl | (simp [e0, e1, e41, e42, e8, e9, hc4, ham4, np, hf']; done)))) | (apply zo; (focus rfl)) | apply gv_u | apply gv_tt | apply gv_ff | apply gv_ft | apply gv_tf))
          exact ⟨_, rfl, .inl ⟨rfl, rfl⟩, .inl rfl, by rw [hrn]; exact q4.push _, (hk3.trans q5).push _, by simp⟩
        | false =>
          rw [ham4] at hrn
          simp only [Bool.false_eq_true, if_false] at hrn
          have hm := segS_more ham4
          have hat4 := q4.at_
          have w1 := wadd (i := k) (by omega)
          have hbw : blk w ≠ some p := by
            rcases hbl with q | ⟨b, q, hb⟩
            · rw [q]; simp
            · rw [q]; intro q2; cases q2; omega
          have hbw2 : blk w = none ∨ blk (.slice a l.length c) ≠ blk w := by
            rcases hbl with q | ⟨b, q, hb⟩
            · exact .inl q
            · right; intro q2; rw [q] at q2; have := hbv b q2; omega
          repeat (first
 | refine za ?_ | refine zb ?_ | refine zc ?_ | refine zd ?_ | refine ze ?_ | refine zf ?_ | refine zg ?_ | refine zh ?_ | (refine zi ?_; try refine RgD_plain rfl ?_) | refine w_drawn rfl ?_ | refine zj ?_ | refine zl ?_
 | ((first | apply zs | (apply zt; (focus rfl)) | (apply zu; (focus rfl)) | (apply zv; (focus rfl)) | apply zx | apply zy | apply zB | apply zC | apply zD | apply zE | apply zF); (focus ((conv => lhs; simp [e0, e1, e41, e42, e8, e9, hc4, ham4, np, hf', w1]); first | done | rfl)); first | apply zk | (apply zn; (focus rfl); try (focus (first | rfl | (simp [e0, e1, e41, e42, e8, e9, hc4, ham4, np, hf', w1]; done)))) | (apply zo; (focus rfl)) | apply gv_u | apply gv_tt | apply gv_ff | apply gv_ft | apply gv_tf))
          have hb5 : Buf f ((h'.push (.cells (sgC (segS l s3).1) 58)).push (.cells (sgC (segS l s3).1) 58)) 58 5 w (elems sgC xs) := ((hb3.keep q5 (.inr hbw)).push _).push _
          obtain ⟨v2, h2, a1, a2, a3, a4⟩ := append_buf (by_ := 40) (n := k) (m := 1) (x := .slice (some ⟨h'.size + 1, 0, none⟩) 1 1) (l2 := sgC (segS l s3).1) (by omega) (by simp; omega) hb5 (by simp [srcCells, sgC]) (by omega) (by rw [elems_len sgC_len, hxl]) (elems_sg_one xs) (sgC_one _) (by omega) (by omega) rfl
          refine w_mem (v := v2) (h' := h2) rfl (by simpa [e9, sgC] using a1) ?_
          repeat (first
 | refine za ?_ | refine zb ?_ | refine zc ?_ | refine zd ?_ | refine ze ?_ | refine zf ?_ | refine zg ?_ | refine zh ?_ | (refine zi ?_; try refine RgD_plain rfl ?_) | refine w_drawn rfl ?_ | refine zj ?_ | refine zl ?_
 | ((first | apply zs | (apply zt; (focus rfl)) | (apply zu; (focus rfl)) | (apply zv; (focus rfl)) | apply zx | apply zy | apply zB | apply zC | apply zD | apply zE | apply zF); (focus ((conv => lhs; simp [e0, e1, e41, e42, e8, e9, w1]); first | done | rfl)); first | apply zk | (apply zn; (focus rfl); try (focus (first | rfl | (simp [e0, e1, e41, e42, e8, e9, w1]; done)))) | (apply zo; (focus rfl)) | apply gv_u | apply gv_tt | apply gv_ff | apply gv_ft | apply gv_tf))
          refine ⟨(k + 1, v2, xs ++ [(segS l s3).1], (segS l s3).2), ⟨by simp only; omega, by simp [e0], by simp [e1], by simp [e41], by simp, by simp [e8], by simp, ((q4.push _).push _).keepX a3 hbw hbw2, ham4, by simpa using a2, ?_, .inr ⟨_, a4, ?_⟩, by simp [hxl], by simp only; omega, ?_⟩, ?_⟩
          · have k1 : KeepB h ((h'.push (.cells (sgC (segS l s3).1) 58)).push (.cells (sgC (segS l s3).1) 58)) (some p) := ((hk3.trans q5).push _).push _
            exact KeepB_new k1 a3 hbl
          · have := hk3.1; have := q5.1; simp; omega
          · rw [hrn]; simp
          · simp only; have := hr3.at_; omega
      · have t1 : decide ((k : Int) < n) = false := by simp; omega
        have hd : n.toNat - k = 0 := by omega
        rw [hd, rowsNM] at hrn
        simp only [List.append_nil] at hrn
        have hz : (rowsNM l n.toNat st).2.2 = false := by rw [hrn]; exact ham3
        rw [if_neg (by rw [hz]; simp), hrn]
        repeat (first
 | refine za ?_ | refine zb ?_ | refine zc ?_ | refine zd ?_ | refine ze ?_ | refine zf ?_ | refine zg ?_ | refine zh ?_ | (refine zi ?_; try refine RgD_plain rfl ?_) | refine w_drawn rfl ?_ | refine zj ?_ | refine zl ?_
 | ((first | apply zs | (apply zt; (focus rfl)) | (apply zu; (focus rfl)) | (apply zv; (focus rfl)) | apply zx | apply zy | apply zB | apply zC | apply zD | apply zE | apply zF); (focus ((conv => lhs; simp [e0, e1, e41, e42, e8, e9, t1]); first | done | rfl)); first | apply zk | (apply zn; (focus rfl); try (focus (first | rfl | (simp [e0, e1, e41, e42, e8, e9, t1]; done)))) | (apply zo; (focus rfl)) | apply gv_u | apply gv_tt | apply gv_ff | apply gv_ft | apply gv_tf))
        have := hr3.at_
        exact ⟨_, rfl, hb3, hbl, hr3, hk3, by simp only; omega⟩
end Go.Proofs.YtmjaanhphkbkeaaGreat
end

section
namespace Go.AM
variable {h : Heap}
/-- a tuple with one new row, and values without addresses -/
theorem finish_tup2 {f e k n : Nat} {h0 : Heap} {w : Value} {l : List Value} {as_ bs : List Value} (hb : Buf h0.size h e k w l) (hk : 0 < k) (hn : n * k = l.length) (hf : f ≤ h0.size) (hl : l.all (vBelow h0.size) = true)
    (ha : ∀ v ∈ as_, vb 5 h0.size v = true ∧ vb 6 h0.size v = true) (hbs : ∀ v ∈ bs, vb 5 h0.size v = true ∧ vb 6 h0.size v = true) :
    ∃ w' h', finish .pure h0 h (.tuple (as_ ++ w :: bs).toArray) = some (.tuple (as_ ++ w' :: bs).toArray, h') ∧ KeepB h0 h' none ∧ Buf f h' e k w' l ∧ Row h' e k w' n l := by
  have hall : ∀ (xs : List Value), (∀ v ∈ xs, vb 5 h0.size v = true ∧ vb 6 h0.size v = true) → xs.all (vb 5 h0.size) = true := fun xs hx => by rw [List.all_eq_true]; exact fun v hv => (hx v hv).1
  have hstep : ∀ (x : Value) (seen : List Nat) (new : List AObj), vb 6 h0.size x = true → outAgg h0.size h seen new x = some (x, seen, new) := fun x seen new hx => by
    unfold outAgg vBelow; rw [if_pos hx]
  have hout : ∀ (xs : List Value) (seen : List Nat) (new : List AObj), (∀ v ∈ xs, vb 5 h0.size v = true ∧ vb 6 h0.size v = true) → outList (outAgg h0.size h) xs seen new = some (xs, seen, new) := by
    intro xs
    induction xs with
    | nil => intro _ _ _; rfl
    | cons x xs ih =>
      intro seen new hx
      rw [outList, hstep x seen new (hx x (by simp)).2]
      simp only [ih seen new (fun v hv => hx v (by simp [hv]))]
  rcases hb with ⟨rfl, rfl⟩ | ⟨b, m, rfl, hm, hc, hfb⟩
  · refine ⟨_, _, finish_pure ?_, .refl _ _, .inl ⟨rfl, rfl⟩, Buf.row (f := f) (.inl ⟨rfl, rfl⟩) hk hn⟩
    simp only [vBelow, vb, List.all_append, List.all_cons, hall as_ ha, hall bs hbs, Bool.and_self]
  · have hbuf : Buf f (h0.push (.cells l e)) e k (.slice (some ⟨h0.size, 0, none⟩) m m) l := .inr ⟨h0.size, m, rfl, hm, by simp, hf⟩
    refine ⟨_, h0.push (.cells l e), ?_, (KeepB.refl _ _).push _, hbuf, hbuf.row hk hn⟩
    have hlt : decide (b < h0.size) = false := by simp; omega
    have hvb : vBelow h0.size (.slice (some ⟨b, 0, none⟩) m m) = false := by
      simp [vBelow, vb]; omega
    have hvt : vBelow h0.size (.tuple (as_ ++ (.slice (some ⟨b, 0, none⟩) m m) :: bs).toArray) = false := by
      simp only [vBelow, vb, List.all_append, List.all_cons]
      rw [hlt]; simp
    have hmid : outAgg h0.size h [] [] (.slice (some ⟨b, 0, none⟩) m m) = some (.slice (some ⟨h0.size, 0, none⟩) m m, [b], [.cells l e]) := by
      simp only [hvb, Bool.false_eq_true, if_false, outAgg, outLeaf, Option.isSome_none, List.contains_nil, hlt, Bool.or_self, hc, Nat.zero_le, decide_true, List.drop_zero, hl, Bool.and_self, if_true, List.nil_append, List.length_nil, Nat.add_zero]
    have happ : ∀ (xs : List Value), (∀ v ∈ xs, vb 5 h0.size v = true ∧ vb 6 h0.size v = true) → outList (outAgg h0.size h) (xs ++ (.slice (some ⟨b, 0, none⟩) m m) :: bs) [] [] = some (xs ++ (.slice (some ⟨h0.size, 0, none⟩) m m) :: bs, [b], [.cells l e]) := by
      intro xs
      induction xs with
      | nil =>
        intro _
        simp only [List.nil_append, outList, hmid, hout bs _ _ hbs]
      | cons x xs ih =>
        intro hx
        rw [List.cons_append, outList, hstep x _ _ (hx x (by simp)).2]
        simp only [ih (fun v hv => hx v (by simp [hv])), List.cons_append]
    simp only [finish, outTop, hvt, Bool.false_eq_true, if_false, happ as_ ha, Option.map_some, List.foldl_cons, List.foldl_nil]
end Go.AM
namespace Go.Proofs.YtmjaanhphkbkeaaGreat
open Go.AM
set_option linter.unusedSimpArgs false
set_option linter.unusedVariables false
variable {f : Nat} {h : Heap}
theorem readMap2_runs {b1 b2 : Nat} {w : Value} {gs : List Sg} {st z : Int} {ab : Bool} (h1 : h.cellsAt b1 = some [.int .i64 st, .bool ab, .int .i64 z]) (h2 : h.cellsAt b2 = some [w]) (hr : GRow h w gs) (hl : gs.length ≤ 100000) :
    Runs X ⟨f, []⟩ 36 [.pointer (some ⟨b1, 0, none⟩), .pointer (some ⟨b2, 0, none⟩)] h (.bool (fineM st ab z gs)) h := by
  refine callR.toRuns (callR_of rfl f36_is ?_)
  simp only [f36r0, f36r1, f36b]
  repeat (first
 | refine za ?_ | refine zb ?_ | refine zc ?_ | refine zd ?_ | refine ze ?_ | refine zf ?_ | refine zg ?_ | refine zh ?_ | (refine zi ?_; try refine RgD_plain rfl ?_) | refine w_drawn rfl ?_ | refine zj ?_ | refine zl ?_
 | ((first | apply zs | (apply zt; (focus rfl)) | (apply zu; (focus rfl)) | (apply zv; (focus rfl)) | apply zw | apply zx | apply zy | apply zB | apply zC | apply zD | apply zE | apply zF); (focus ((conv => lhs; simp [h1, h2]); first | done | rfl)); first | apply zk | (apply zn; (focus rfl); try (focus (first | rfl | (simp [h1, h2]; done)))) | (apply zo; (focus rfl)) | apply gv_u | apply gv_tt | apply gv_ff | apply gv_ft | apply gv_tf | exact (ifine_runs hr hl)))
  exact ⟨rfl, rfl⟩
structure RMap where
  (st : Int) (ab : Bool) (z : Int) (gs : List Sg) (at_ : Nat) (e : Int)
def readTail (l : List Nat) (st : Int) (ab : Bool) (z : Int) (s : St) : RMap :=
  let r := rowsSM l s
  let y := endS l r.2 r.1.2 (fineM st ab z r.1.1)
  if y.2 = 0 then ⟨st, ab, z, r.1.1, y.1, 0⟩ else ⟨0, false, 0, [], y.1, y.2⟩
def readMapS (l : List Nat) : RMap :=
  let g := signS l (signS l (lengthS l (0, false)) [2]).2 [0, 2]
  let a := signS l g.2 [0, 1]
  if a.1 = 1 then readTail l g.1 (!(numS l a.2).2.2) (numS l a.2).1 (numS l a.2).2 else readTail l g.1 false 0 a.2
def MapOut (h : Heap) (m : RMap) (r : Value) (h' : Heap) : Prop := ∃ w, r = .tuple #[.agg #[.int .i64 m.st, .bool m.ab, .int .i64 m.z], w, .int .i64 m.at_, .int .i64 m.e] ∧ KeepB h h' none ∧ GRow h' w m.gs ∧ m.gs.length ≤ 100000
set_option maxHeartbeats 4000000 in
theorem readMap_runs {v : Value} {l : List Nat} (hr : BRow h v l) (hl : l.length ≤ 100000) (hby : ∀ b ∈ l, b < 256) (hf : f ≤ h.size) :
    callR X ⟨f, []⟩ 9 [v] h (MapOut h (readMapS l)) := by
  refine callR_of rfl f9_is ?_
  obtain ⟨a, c, rfl⟩ := hr.form
  have hne : ∀ x, h.size ≤ x → blk (.slice a l.length c) ≠ some x := fun x hx q => by have := hr.blt q; omega
  obtain ⟨p, hp⟩ : ∃ p, p = h.size + 1 := ⟨_, rfl⟩
  obtain ⟨pb, hpb⟩ : ∃ p, p = h.size + 1 + 1 := ⟨_, rfl⟩
  obtain ⟨H, hH⟩ : ∃ H, H = ((h.push (.cells [.int .i64 0, .bool false, .int .i64 0] 30)).push (.cells [.slice a l.length c, .int .i64 0, .bool false] 68)).push (.cells [.pointer (some ⟨h.size + 1, 0, none⟩)] 66) := ⟨_, rfl⟩
  have hHs : H.size = h.size + 3 := by rw [hH]; simp
  have kH : KeepB h H none := by rw [hH]; exact (((KeepB.refl _ _).push _).push _).push _
  have hH0 : H[h.size]? = some (.cells [.int .i64 0, .bool false, .int .i64 0] 30) := by
    rw [hH, Array.getElem?_push, if_neg (by simp), Array.getElem?_push, if_neg (by simp), Array.getElem?_push, if_pos rfl]
  have hH2 : Heap.cellsAt H pb = some [.pointer (some ⟨p, 0, none⟩)] := by rw [hH, hpb, hp]; simp
  have r0 : Rdr h.size H p (.slice a l.length c) l (0, false) :=
    ⟨by omega, by rw [hH, hp, Array.getElem?_push, if_neg (by simp), Array.getElem?_push, if_pos (by simp)]; rfl, hr.keepB kH (.inl rfl), hne _ (by omega), by simp, hl, hby⟩
  simp only [f9b]
  generalize hR : (ACode.seq (.reg f9r10) _) = REST
  have hrest : ∀ (env : Env) (hh : Heap) (st : Int) (ab : Bool) (z : Int) (s5 : St) (q : Nat), env 6 = .pointer (some ⟨pb, 0, none⟩) → env 7 = .pointer (some ⟨q, 0, none⟩) → env 2 = .pointer (some ⟨h.size, 0, none⟩) → KeepB H hh (some p) → Rdr h.size hh p (.slice a l.length c) l s5 → hh.cellsAt q = some [.int .i64 st, .bool ab, .int .i64 z] → H.size ≤ q → q < hh.size →
      Ok X ⟨h.size, []⟩ REST env hh (EndsR [.cellN 2 3, .tmp 3, .tmp 4, .tmp 5] .pure h (MapOut h (readTail l st ab z s5))) := by
    intro env hh st ab z s5 q e6 e7 e2 kk rr hq hHq hql
    subst hR
    simp only [f9r0, f9r1, f9r2, f9r3, f9r4, f9r5, f9r6, f9r7, f9r8, f9r9, f9r10, f9r11, f9r12, f9r13, f9r14, f9b]
    have hpb1 : hh.cellsAt pb = some [.pointer (some ⟨p, 0, none⟩)] := by rw [kk.cells (by omega) (by simp; omega), hH2]
    have hszH := kk.1
    repeat (first
 | refine za ?_ | refine zb ?_ | refine zc ?_ | refine zd ?_ | refine ze ?_ | refine zf ?_ | refine zg ?_ | refine zh ?_ | (refine zi ?_; try refine RgD_plain rfl ?_) | refine w_drawn rfl ?_ | refine zj ?_ | refine zl ?_
 | ((first | apply zs | (apply zt; (focus rfl)) | (apply zu; (focus rfl)) | (apply zv; (focus rfl)) | apply zx | apply zy | apply zB | apply zC | apply zD | apply zE | apply zF); (focus ((conv => lhs; simp [e6, e7, e2, hpb1]); first | done | rfl)); first | apply zk | (apply zn; (focus rfl); try (focus (first | rfl | (simp [e6, e7, e2, hpb1]; done)))) | (apply zo; (focus rfl)) | apply gv_u | apply gv_tt | apply gv_ff | apply gv_ft | apply gv_tf))
    (apply zW; (focus ((conv => lhs; simp [e6, e7, e2]); first | done | rfl)); (focus exact rowsM_runs rr (by omega) hpb1 (by omega))); intro v4 h4 q4
    obtain ⟨w, e4, b4, hbl4, r4, k4, hl4⟩ := q4
    subst e4
    generalize hrw : rowsSM l s5 = rw4 at *
    have hrow4 : GRow h4 w rw4.1.1 := b4.row (by omega) (by rw [elems_len sgC_len])
    obtain ⟨aw, cw, rfl⟩ := hrow4.form
    have hz34 := k4.1
    have hz4 : h.size ≤ h4.size := by omega
    have kk4 := kk.trans k4
    have hpb4 : h4.cellsAt pb = some [.pointer (some ⟨p, 0, none⟩)] := by rw [kk4.cells (by omega) (by simp; omega), hH2]
    have hq4 : h4.cellsAt q = some [.int .i64 st, .bool ab, .int .i64 z] := by rw [k4.cells hql (by simp; omega), hq]
    have n1 : ¬ q = h4.size := by omega
    have n2 : ¬ pb = h4.size := by omega
    have n3 : ¬ h.size = h4.size := by omega
    have c1 : Heap.cellsAt (h4.push (.cells [.slice aw rw4.1.1.length cw] 24)) q = some [.int .i64 st, .bool ab, .int .i64 z] := by rw [cellsAt_push, if_neg n1, hq4]
    have c2 : Heap.cellsAt (h4.push (.cells [.slice aw rw4.1.1.length cw] 24)) h4.size = some [.slice aw rw4.1.1.length cw] := by simp
    generalize hy : endS l rw4.2 rw4.1.2 (fineM st ab z rw4.1.1) = y
    have hend := end_runs (begins := rw4.1.2) (r4.push (.cells [.slice aw rw4.1.1.length cw] 24)) (readMap2_runs c1 c2 (hrow4.push _) hl4)
    rw [hy] at hend
    have ho0 : h4[h.size]? = some (.cells [.int .i64 0, .bool false, .int .i64 0] 30) := by
      rw [kk4.2 _ (by omega) (by simp; omega), hH0]
    have hwr : ∀ off vs, wr ⟨h.size, []⟩ h4 h.size off vs = if h.size ≤ h.size ∧ vs.all one = true ∧ off + vs.length ≤ 3 then some (h4.setIfInBounds h.size (.cells (putAt [.int .i64 0, .bool false, .int .i64 0] off vs) 30)) else none := fun off vs => by rw [wr_def ho0]; rfl
    have hsz3 : h.size < h4.size := by omega
    have hbw : blk (.slice aw rw4.1.1.length cw) ≠ some h.size := by
      rcases hbl4 with q | ⟨b, q, hb⟩
      · rw [q]; simp
      · rw [q]; intro q2; cases q2; omega
    by_cases he : y.2 = 0
    · have e : readTail l st ab z s5 = ⟨st, ab, z, rw4.1.1, y.1, 0⟩ := by simp only [readTail, hrw, hy, he, if_true]
      have t1 : (y.2 != 0) = false := by simp [he]
      rw [e]
      repeat (first
 | refine za ?_ | refine zb ?_ | refine zc ?_ | refine zd ?_ | refine ze ?_ | refine zf ?_ | refine zg ?_ | refine zh ?_ | (refine zi ?_; try refine RgD_plain rfl ?_) | refine w_drawn rfl ?_ | refine zj ?_ | refine zl ?_
 | ((first | apply zs | (apply zt; (focus rfl)) | (apply zu; (focus rfl)) | (apply zv; (focus rfl)) | apply zw | apply zx | apply zy | apply zB | apply zC | apply zD | apply zE | apply zF); (focus ((conv => lhs; simp [e6, e7, e2, hz4, hpb4, hq4, n1, n2, n3, t1, hwr, hsz3]); first | done | rfl)); first | apply zk | (apply zn; (focus rfl); try (focus (first | rfl | (simp [e6, e7, e2, hz4, hpb4, hq4, n1, n2, n3, t1, hwr, hsz3]; done)))) | (apply zo; (focus rfl)) | apply gv_u | apply gv_tt | apply gv_ff | apply gv_ft | apply gv_tf | exact hend))
      have b5 : Buf h.size ((h4.setIfInBounds h.size (.cells [.int .i64 st, .bool ab, .int .i64 z] 30)).push (.cells [.slice aw rw4.1.1.length cw] 24)) 58 5 (.slice aw rw4.1.1.length cw) (elems sgC rw4.1.1) :=
        (b4.keep (h' := h4.setIfInBounds h.size (.cells [.int .i64 st, .bool ab, .int .i64 z] 30)) ((KeepB.refl h4 (some h.size)).set _ (.inr rfl)) (.inr hbw)).push _
      obtain ⟨w', h5, f1, f2, f3, f4⟩ := finish_tup2 (f := f) (h0 := h) (as_ := [.agg #[.int .i64 st, .bool ab, .int .i64 z]]) (bs := [.int .i64 y.1, .int .i64 0]) b5 (by omega) (by rw [elems_len sgC_len]) hf (all_below_ints (elems_ints sgC_ints _)) (by simp [vb]) (by simp [vb])
      exact w_endr (vs := [.agg #[.int .i64 st, .bool ab, .int .i64 z], .slice aw rw4.1.1.length cw, .int .i64 y.1, .int .i64 0]) (by simp [e2, n3, hsz3]) f1 ⟨w', rfl, f2, f4, hl4⟩
    · have e : readTail l st ab z s5 = ⟨0, false, 0, [], y.1, y.2⟩ := by simp only [readTail, hrw, hy, he, if_false]
      have t1 : (y.2 != 0) = true := by simp [he]
      rw [e]
      repeat (first
 | refine za ?_ | refine zb ?_ | refine zc ?_ | refine zd ?_ | refine ze ?_ | refine zf ?_ | refine zg ?_ | refine zh ?_ | (refine zi ?_; try refine RgD_plain rfl ?_) | refine w_drawn rfl ?_ | refine zj ?_ | refine zl ?_
 | ((first | apply zs | (apply zt; (focus rfl)) | (apply zu; (focus rfl)) | (apply zv; (focus rfl)) | apply zw | apply zx | apply zy | apply zB | apply zC | apply zD | apply zE | apply zF); (focus ((conv => lhs; simp [e6, e7, e2, hz4, hpb4, hq4, n1, n2, n3, t1, hwr, hsz3]); first | done | rfl)); first | apply zk | (apply zn; (focus rfl); try (focus (first | rfl | (simp [e6, e7, e2, hz4, hpb4, hq4, n1, n2, n3, t1, hwr, hsz3]; done)))) | (apply zo; (focus rfl)) | apply gv_u | apply gv_tt | apply gv_ff | apply gv_ft | apply gv_tf | exact hend))
      exact ⟨_, rfl, .refl _ _, Buf.row (f := 0) (.inl ⟨rfl, rfl⟩) (by omega) rfl, by simp⟩
  simp only [f9r0, f9r1, f9r2, f9r3, f9r4, f9r5, f9r6, f9r7, f9r8, f9r9, f9r10, f9r11, f9r12, f9r13, f9r14, f9b]
  subst hp hpb
  have le2 : h.size ≤ h.size + 1 + 1 := by omega
  repeat (first
 | refine za ?_ | refine zb ?_ | refine zc ?_ | refine zd ?_ | refine ze ?_ | refine zf ?_ | refine zg ?_ | refine zh ?_ | (refine zi ?_; try refine RgD_plain rfl ?_) | refine w_drawn rfl ?_ | refine zj ?_ | refine zl ?_
 | ((first | apply zs | (apply zt; (focus rfl)) | (apply zu; (focus rfl)) | (apply zv; (focus rfl)) | apply zx | apply zy | apply zB | apply zC | apply zD | apply zE | apply zF); (focus ((conv => lhs; simp [le2]); first | done | rfl)); first | apply zk | (apply zn; (focus rfl); try (focus (first | rfl | (simp [le2]; done)))) | (apply zo; (focus rfl)) | apply gv_u | apply gv_tt | apply gv_ff | apply gv_ft | apply gv_tf))
  rw [← hH]
  repeat (first
 | refine za ?_ | refine zb ?_ | refine zc ?_ | refine zd ?_ | refine ze ?_ | refine zf ?_ | refine zg ?_ | refine zh ?_ | (refine zi ?_; try refine RgD_plain rfl ?_) | refine w_drawn rfl ?_ | refine zj ?_ | refine zl ?_
 | ((first | apply zs | (apply zt; (focus rfl)) | (apply zu; (focus rfl)) | (apply zv; (focus rfl)) | apply zx | apply zy | apply zB | apply zC | apply zD | apply zE | apply zF); (focus ((conv => lhs; simp [hH2]); first | done | rfl)); first | apply zk | (apply zn; (focus rfl); try (focus (first | rfl | (simp [hH2]; done)))) | (apply zo; (focus rfl)) | apply gv_u | apply gv_tt | apply gv_ff | apply gv_ft | apply gv_tf))
  (apply zW; (focus ((conv => lhs; simp); first | done | rfl)); (focus exact length_runs r0 rfl)); intro v1 h1 q1
  obtain ⟨r1, k1⟩ := q1
  have hsz1 := k1.1
  have hpb1 : h1.cellsAt (h.size + 1 + 1) = some [.pointer (some ⟨h.size + 1, 0, none⟩)] := by rw [k1.cells (by omega) (by simp), hH2]
  have m1 : ¬ h.size + 1 + 1 = h1.size := by omega
  repeat (first
 | refine za ?_ | refine zb ?_ | refine zc ?_ | refine zd ?_ | refine ze ?_ | refine zf ?_ | refine zg ?_ | refine zh ?_ | (refine zi ?_; try refine RgD_plain rfl ?_) | refine w_drawn rfl ?_ | refine zj ?_ | refine zl ?_
 | ((first | apply zs | (apply zt; (focus rfl)) | (apply zu; (focus rfl)) | (apply zv; (focus rfl)) | apply zx | apply zy | apply zB | apply zC | apply zD | apply zE | apply zF); (focus ((conv => lhs; simp [hpb1, m1]); first | done | rfl)); first | apply zk | (apply zn; (focus rfl); try (focus (first | rfl | (simp [hpb1, m1]; done)))) | (apply zo; (focus rfl)) | apply gv_u | apply gv_tt | apply gv_ff | apply gv_ft | apply gv_tf))
  have hx1 : BRow (h1.push (.cells [.int .u8 2] 5)) (.slice (some ⟨h1.size, 0, none⟩) 1 1) [2] := Buf.row (f := 0) (.inr ⟨_, 1, rfl, rfl, by simp [bvs, bv], by simp⟩) (by omega) rfl
  (apply zW; (focus ((conv => lhs; simp); first | done | rfl)); (focus exact sign_runs (r1.push _) hx1 (by simp))); intro v2 h2 q2
  obtain ⟨e2, r2, k2⟩ := q2
  subst e2
  generalize hs2 : (signS l (lengthS l (0, false)) [2]).2 = s2 at *
  have k2' := (k1.trans ((KeepB.refl _ _).push _)).trans k2
  have hsz2 := k2'.1
  have hpb2 : h2.cellsAt (h.size + 1 + 1) = some [.pointer (some ⟨h.size + 1, 0, none⟩)] := by rw [k2'.cells (by omega) (by simp), hH2]
  have m2 : ¬ h.size + 1 + 1 = h2.size := by omega
  repeat (first
 | refine za ?_ | refine zb ?_ | refine zc ?_ | refine zd ?_ | refine ze ?_ | refine zf ?_ | refine zg ?_ | refine zh ?_ | (refine zi ?_; try refine RgD_plain rfl ?_) | refine w_drawn rfl ?_ | refine zj ?_ | refine zl ?_
 | ((first | apply zs | (apply zt; (focus rfl)) | (apply zu; (focus rfl)) | (apply zv; (focus rfl)) | apply zx | apply zy | apply zB | apply zC | apply zD | apply zE | apply zF); (focus ((conv => lhs; simp [hpb2, m2]); first | done | rfl)); first | apply zk | (apply zn; (focus rfl); try (focus (first | rfl | (simp [hpb2, m2]; done)))) | (apply zo; (focus rfl)) | apply gv_u | apply gv_tt | apply gv_ff | apply gv_ft | apply gv_tf))
  have hx2 : BRow (h2.push (.cells [.int .u8 0, .int .u8 2] 5)) (.slice (some ⟨h2.size, 0, none⟩) 2 2) [0, 2] := Buf.row (f := 0) (.inr ⟨_, 2, rfl, rfl, by simp [bvs, bv], by simp⟩) (by omega) rfl
  (apply zW; (focus ((conv => lhs; simp); first | done | rfl)); (focus exact sign_runs (r2.push _) hx2 (by simp))); intro v3 h3 q3
  obtain ⟨e3, r3, k3⟩ := q3
  subst e3
  generalize hg : signS l s2 [0, 2] = g at *
  have k3' := (k2'.trans ((KeepB.refl _ _).push _)).trans k3
  have hsz3 := k3'.1
  have hpb3 : h3.cellsAt (h.size + 1 + 1) = some [.pointer (some ⟨h.size + 1, 0, none⟩)] := by rw [k3'.cells (by omega) (by simp), hH2]
  have m3 : ¬ h.size + 1 + 1 = h3.size := by omega
  have m3' : ¬ h.size + 1 + 1 = h3.size + 1 := by omega
  have l3 : h.size ≤ h3.size := by omega
  repeat (first
 | refine za ?_ | refine zb ?_ | refine zc ?_ | refine zd ?_ | refine ze ?_ | refine zf ?_ | refine zg ?_ | refine zh ?_ | (refine zi ?_; try refine RgD_plain rfl ?_) | refine w_drawn rfl ?_ | refine zj ?_ | refine zl ?_
 | ((first | apply zs | (apply zt; (focus rfl)) | (apply zu; (focus rfl)) | (apply zv; (focus rfl)) | apply zx | apply zy | apply zB | apply zC | apply zD | apply zE | apply zF); (focus ((conv => lhs; simp [hpb3, m3, m3', l3]); first | done | rfl)); first | apply zk | (apply zn; (focus rfl); try (focus (first | rfl | (simp [hpb3, m3, m3', l3]; done)))) | (apply zo; (focus rfl)) | apply gv_u | apply gv_tt | apply gv_ff | apply gv_ft | apply gv_tf))
  have r3' := (r3.push (.cells [.int .i64 g.1, .bool false, .int .i64 0] 30)).push (.cells [.int .u8 0, .int .u8 1] 5)
  have hx3 : BRow ((h3.push (.cells [.int .i64 g.1, .bool false, .int .i64 0] 30)).push (.cells [.int .u8 0, .int .u8 1] 5)) (.slice (some ⟨h3.size + 1, 0, none⟩) 2 2) [0, 1] := Buf.row (f := 0) (.inr ⟨_, 2, rfl, rfl, by rw [Array.getElem?_push, if_pos (by simp)]; simp [bvs, bv], Nat.zero_le _⟩) (by omega) rfl
  (apply zW; (focus ((conv => lhs; simp); first | done | rfl)); (focus exact sign_runs r3' hx3 (by simp))); intro v4 h4 q4
  obtain ⟨e4, r4, k4⟩ := q4
  subst e4
  generalize ha : signS l g.2 [0, 1] = sa at *
  have k4' := ((k3'.trans ((KeepB.refl _ _).push _)).trans ((KeepB.refl _ _).push _)).trans k4
  have hsz4 := k4.1
  simp at hsz4
  have hpb4 : h4.cellsAt (h.size + 1 + 1) = some [.pointer (some ⟨h.size + 1, 0, none⟩)] := by rw [k4'.cells (by omega) (by simp), hH2]
  have hru4 : h4[h3.size]? = some (.cells [.int .i64 g.1, .bool false, .int .i64 0] 30) := by
    rw [k4.2 _ (by simp; omega) (by simp; omega), Array.getElem?_push, if_neg (by simp), Array.getElem?_push, if_pos rfl]
  have hrc4 : h4.cellsAt h3.size = some [.int .i64 g.1, .bool false, .int .i64 0] := by unfold Heap.cellsAt; rw [hru4]
  have l4 : h3.size < h4.size := by omega
  have hwr4 : ∀ off vs, wr ⟨h.size, []⟩ h4 h3.size off vs = if h.size ≤ h3.size ∧ vs.all one = true ∧ off + vs.length ≤ 3 then some (h4.setIfInBounds h3.size (.cells (putAt [.int .i64 g.1, .bool false, .int .i64 0] off vs) 30)) else none := fun off vs => by rw [wr_def hru4]; rfl
  have hrm : readMapS l = if sa.1 = 1 then readTail l g.1 (!(numS l sa.2).2.2) (numS l sa.2).1 (numS l sa.2).2 else readTail l g.1 false 0 sa.2 := by
    simp only [readMapS, hs2, hg, ha]
  by_cases h1s : sa.1 = 1
  · have t1 : ((sa.1 : Int) == 1) = true := by simp [h1s]
    rw [hrm, if_pos h1s]
    have m5 : ¬ h3.size = h.size + 1 + 1 := by omega
    have m6 : ¬ h3.size = h.size + 1 := by omega
    repeat (first
 | refine za ?_ | refine zb ?_ | refine zc ?_ | refine zd ?_ | refine ze ?_ | refine zf ?_ | refine zg ?_ | refine zh ?_ | (refine zi ?_; try refine RgD_plain rfl ?_) | refine w_drawn rfl ?_ | refine zj ?_ | refine zl ?_
 | ((first | apply zs | (apply zt; (focus rfl)) | (apply zu; (focus rfl)) | (apply zv; (focus rfl)) | apply zx | apply zy | apply zB | apply zC | apply zD | apply zE | apply zF); (focus ((conv => lhs; simp [hpb4, t1, l3, l4, hwr4, hrc4, m5]); first | done | rfl)); first | apply zk | (apply zn; (focus rfl); try (focus (first | rfl | (simp [hpb4, t1, l3, l4, hwr4, hrc4, m5]; done)))) | (apply zo; (focus rfl)) | apply gv_u | apply gv_tt | apply gv_ff | apply gv_ft | apply gv_tf))
    have hvn : blk (.slice a l.length c) ≠ some h3.size := hne _ l3
    have k5 : KeepB H (h4.setIfInBounds h3.size (.cells [.int .i64 g.1, .bool true, .int .i64 0] 30)) (some (h.size + 1)) := k4'.set _ (.inl hsz3)
    (apply zW; (focus ((conv => lhs; simp); first | done | rfl)); (focus exact numR_runs (r4.setO (x := .cells [.int .i64 g.1, .bool true, .int .i64 0] 30) m6 hvn))); intro v6 h6 q6
    obtain ⟨e6, r6, k6⟩ := q6
    subst e6
    have k6' := k5.trans k6
    have hsz6 := k6.1
    simp at hsz6
    have l6 : h3.size < h6.size := by omega
    have hru6 : h6[h3.size]? = some (.cells [.int .i64 g.1, .bool true, .int .i64 0] 30) := by
      rw [k6.2 _ (by simp; omega) (by simp; omega), Array.getElem?_setIfInBounds, if_pos rfl, if_pos l4]
    have hrc6 : h6.cellsAt h3.size = some [.int .i64 g.1, .bool true, .int .i64 0] := by unfold Heap.cellsAt; rw [hru6]
    have hpb6 : h6.cellsAt (h.size + 1 + 1) = some [.pointer (some ⟨h.size + 1, 0, none⟩)] := by rw [k6'.cells (by omega) (by simp), hH2]
    have hpc6 := r6.cells
    have hwr6 : ∀ off vs, wr ⟨h.size, []⟩ h6 h3.size off vs = if h.size ≤ h3.size ∧ vs.all one = true ∧ off + vs.length ≤ 3 then some (h6.setIfInBounds h3.size (.cells (putAt [.int .i64 g.1, .bool true, .int .i64 0] off vs) 30)) else none := fun off vs => by rw [wr_def hru6]; rfl
    have hwr7 : ∀ c off vs, wr ⟨h.size, []⟩ (h6.setIfInBounds h3.size (.cells c 30)) h3.size off vs = if h.size ≤ h3.size ∧ vs.all one = true ∧ off + vs.length ≤ c.length then some (h6.setIfInBounds h3.size (.cells (putAt c off vs) 30)) else none := fun c off vs => by
      rw [wr_def (c := c) (e := 30) (by rw [Array.getElem?_setIfInBounds, if_pos rfl, if_pos l6]), set_set]
    repeat (first
 | refine za ?_ | refine zb ?_ | refine zc ?_ | refine zd ?_ | refine ze ?_ | refine zf ?_ | refine zg ?_ | refine zh ?_ | (refine zi ?_; try refine RgD_plain rfl ?_) | refine w_drawn rfl ?_ | refine zj ?_ | refine zl ?_
 | ((first | apply zs | (apply zt; (focus rfl)) | (apply zu; (focus rfl)) | (apply zv; (focus rfl)) | apply zx | apply zy | apply zB | apply zC | apply zD | apply zE | apply zF); (focus ((conv => lhs; simp [t1, l3, l6, hwr6, hwr7, hrc6, hpb6, hpc6, m5, m6]); first | done | rfl)); first | apply zk | (apply zn; (focus rfl); try (focus (first | rfl | (simp [t1, l3, l6, hwr6, hwr7, hrc6, hpb6, hpc6, m5, m6]; done)))) | (apply zo; (focus rfl)) | apply gv_u | apply gv_tt | apply gv_ff | apply gv_ft | apply gv_tf))
    refine hrest _ _ _ _ _ _ h3.size ?_ ?_ ?_ (k6'.set _ (.inl hsz3)) (r6.setO m6 hvn) ?_ hsz3 ?_
    · simp
    · simp
    · simp
    · simp [l6]
    · simp; omega
  · have t1 : ((sa.1 : Int) == 1) = false := by simp; omega
    rw [hrm, if_neg h1s]
    have m6 : ¬ h3.size = h.size + 1 := by omega
    have hvn : blk (.slice a l.length c) ≠ some h3.size := hne _ l3
    repeat (first
 | refine za ?_ | refine zb ?_ | refine zc ?_ | refine zd ?_ | refine ze ?_ | refine zf ?_ | refine zg ?_ | refine zh ?_ | (refine zi ?_; try refine RgD_plain rfl ?_) | refine w_drawn rfl ?_ | refine zj ?_ | refine zl ?_
 | ((first | apply zs | (apply zt; (focus rfl)) | (apply zu; (focus rfl)) | (apply zv; (focus rfl)) | apply zx | apply zy | apply zB | apply zC | apply zD | apply zE | apply zF); (focus ((conv => lhs; simp [hpb4, t1, l3, l4, hwr4, hrc4]); first | done | rfl)); first | apply zk | (apply zn; (focus rfl); try (focus (first | rfl | (simp [hpb4, t1, l3, l4, hwr4, hrc4]; done)))) | (apply zo; (focus rfl)) | apply gv_u | apply gv_tt | apply gv_ff | apply gv_ft | apply gv_tf))
    refine hrest _ _ _ _ _ _ h3.size ?_ ?_ ?_ (k4'.set _ (.inl hsz3)) (r4.setO m6 hvn) ?_ hsz3 ?_
    · simp
    · simp
    · simp
    · simp [l4]
    · simp; omega
end Go.Proofs.YtmjaanhphkbkeaaGreat
end
