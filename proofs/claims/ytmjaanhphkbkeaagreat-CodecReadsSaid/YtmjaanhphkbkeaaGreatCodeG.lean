import Derived.Test.YtmjaanhphkbkeaaGreatCodeE
set_option linter.all false
section
namespace Go.Proofs.YtmjaanhphkbkeaaGreat
open Go.AM
set_option linter.unusedSimpArgs false
set_option linter.unusedVariables false
variable {f : Nat} {h : Heap}
def fineS (st : Int) (xs : List Sp) : Bool := (!(st == 0) || apartFrom none xs) && sortedFrom none xs
theorem readSet1_runs {b1 b2 : Nat} {w : Value} {xs : List Sp} {st : Int} (h1 : h.cellsAt b1 = some [.int .i64 st]) (h2 : h.cellsAt b2 = some [w]) (hr : SRow h w xs) (hl : xs.length ≤ 100000) :
    Runs X ⟨f, []⟩ 38 [.pointer (some ⟨b1, 0, none⟩), .pointer (some ⟨b2, 0, none⟩)] h (.bool (fineS st xs)) h := by
  refine callR.toRuns (callR_of rfl f38_is ?_)
  simp only [f38r0, f38r1, f38b]
  repeat (first
 | refine za ?_ | refine zb ?_ | refine zc ?_ | refine zd ?_ | refine ze ?_ | refine zf ?_ | refine zg ?_ | refine zh ?_ | (refine zi ?_; try refine RgD_plain rfl ?_) | refine w_drawn rfl ?_ | refine zj ?_ | refine zl ?_
 | ((first | apply zs | (apply zt; (focus rfl)) | (apply zu; (focus rfl)) | (apply zv; (focus rfl)) | apply zw | apply zx | apply zy | apply zB | apply zC | apply zD | apply zE | apply zF); (focus ((conv => lhs; simp [h1, h2]); first | done | rfl)); first | apply zk | (apply zn; (focus rfl); try (focus (first | rfl | (simp [h1, h2]; done)))) | (apply zo; (focus rfl)) | apply gv_u | apply gv_tt | apply gv_ff | apply gv_ft | apply gv_tf | exact (iset_fine_runs hr hl)))
  exact ⟨rfl, rfl⟩
def endS (l : List Nat) (s : St) (begins : Nat) (fine : Bool) : Nat × Int := if s.2 || decide (s.1 < l.length) then (s.1, 190) else if fine then (s.1, 0) else (begins, 190)
theorem end_runs {p : Nat} {v : Value} {l : List Nat} {s : St} {g : FuncId} {c1 c2 : Value} {begins : Nat} {fine : Bool} (r : Rdr f h p v l s) (hf : Runs X ⟨f, []⟩ g [c1, c2] h (.bool fine) h) :
    Runs X ⟨f, []⟩ 35 [.pointer (some ⟨p, 0, none⟩), .int .i64 begins, .func (.func g) #[] #[c1, c2]] h (.tuple #[.int .i64 (endS l s begins fine).1, .int .i64 (endS l s begins fine).2]) h := by
  have hc := r.cells
  obtain ⟨a, c, rfl⟩ := r.row.form
  refine callR.toRuns (callR_of rfl f35_is ?_)
  simp only [f35r0, f35r1, f35r2, f35r3, f35r4, f35r5, f35b]
  cases ham : s.2 with
  | true =>
    have e : endS l s begins fine = (s.1, 190) := by simp [endS, ham]
    rw [e]
    repeat (first
 | refine za ?_ | refine zb ?_ | refine zc ?_ | refine zd ?_ | refine ze ?_ | refine zf ?_ | refine zg ?_ | refine zh ?_ | (refine zi ?_; try refine RgD_plain rfl ?_) | refine w_drawn rfl ?_ | refine zj ?_ | refine zl ?_
 | ((first | apply zs | (apply zt; (focus rfl)) | (apply zu; (focus rfl)) | (apply zv; (focus rfl)) | apply zw | apply zx | apply zy | apply zB | apply zC | apply zD | apply zE | apply zF); (focus ((conv => lhs; simp [hc, ham]); first | done | rfl)); first | apply zk | (apply zn; (focus rfl); try (focus (first | rfl | (simp [hc, ham]; done)))) | (apply zo; (focus rfl)) | apply gv_u | apply gv_tt | apply gv_ff | apply gv_ft | apply gv_tf | exact hf))
    exact ⟨rfl, rfl⟩
  | false =>
    by_cases hlt : s.1 < l.length
    · have e : endS l s begins fine = (s.1, 190) := by simp [endS, hlt]
      rw [e]
      repeat (first
 | refine za ?_ | refine zb ?_ | refine zc ?_ | refine zd ?_ | refine ze ?_ | refine zf ?_ | refine zg ?_ | refine zh ?_ | (refine zi ?_; try refine RgD_plain rfl ?_) | refine w_drawn rfl ?_ | refine zj ?_ | refine zl ?_
 | ((first | apply zs | (apply zt; (focus rfl)) | (apply zu; (focus rfl)) | (apply zv; (focus rfl)) | apply zw | apply zx | apply zy | apply zB | apply zC | apply zD | apply zE | apply zF); (focus ((conv => lhs; simp [hc, ham, hlt]); first | done | rfl)); first | apply zk | (apply zn; (focus rfl); try (focus (first | rfl | (simp [hc, ham, hlt]; done)))) | (apply zo; (focus rfl)) | apply gv_u | apply gv_tt | apply gv_ff | apply gv_ft | apply gv_tf | exact hf))
      exact ⟨rfl, rfl⟩
    · cases hfi : fine with
      | true =>
        have e : endS l s begins true = (s.1, 0) := by simp [endS, hlt, ham]
        rw [hfi] at hf
        rw [e]
        repeat (first
 | refine za ?_ | refine zb ?_ | refine zc ?_ | refine zd ?_ | refine ze ?_ | refine zf ?_ | refine zg ?_ | refine zh ?_ | (refine zi ?_; try refine RgD_plain rfl ?_) | refine w_drawn rfl ?_ | refine zj ?_ | refine zl ?_
 | ((first | apply zs | (apply zt; (focus rfl)) | (apply zu; (focus rfl)) | (apply zv; (focus rfl)) | apply zw | apply zx | apply zy | apply zB | apply zC | apply zD | apply zE | apply zF); (focus ((conv => lhs; simp [hc, ham, hlt]); first | done | rfl)); first | apply zk | (apply zn; (focus rfl); try (focus (first | rfl | (simp [hc, ham, hlt]; done)))) | (apply zo; (focus rfl)) | apply gv_u | apply gv_tt | apply gv_ff | apply gv_ft | apply gv_tf | exact hf))
        exact ⟨rfl, rfl⟩
      | false =>
        have e : endS l s begins false = (begins, 190) := by simp [endS, hlt, ham]
        rw [hfi] at hf
        rw [e]
        repeat (first
 | refine za ?_ | refine zb ?_ | refine zc ?_ | refine zd ?_ | refine ze ?_ | refine zf ?_ | refine zg ?_ | refine zh ?_ | (refine zi ?_; try refine RgD_plain rfl ?_) | refine w_drawn rfl ?_ | refine zj ?_ | refine zl ?_
 | ((first | apply zs | (apply zt; (focus rfl)) | (apply zu; (focus rfl)) | (apply zv; (focus rfl)) | apply zw | apply zx | apply zy | apply zB | apply zC | apply zD | apply zE | apply zF); (focus ((conv => lhs; simp [hc, ham, hlt]); first | done | rfl)); first | apply zk | (apply zn; (focus rfl); try (focus (first | rfl | (simp [hc, ham, hlt]; done)))) | (apply zo; (focus rfl)) | apply gv_u | apply gv_tt | apply gv_ff | apply gv_ft | apply gv_tf | exact hf))
        exact ⟨rfl, rfl⟩
end Go.Proofs.YtmjaanhphkbkeaaGreat
end

section
namespace Go.Proofs.YtmjaanhphkbkeaaGreat
open Go.AM
set_option linter.unusedSimpArgs false
set_option linter.unusedVariables false
variable {f : Nat} {h : Heap}
theorem callR.to1 {X : Tab} {κ : Ctx} {g : FuncId} {args : List Value} {R : Value → Heap → Prop} (a : callR X κ g args h R) : ∃ v h', Runs X κ g args h v h' ∧ R v h' := a
/-- what bytes are, read as a set's row -/
structure RSet where
  (st : Int) (xs : List Sp) (at_ : Nat) (e : Int)
def readSetS (l : List Nat) : RSet :=
  let s2 := (signS l (lengthS l (0, false)) [1]).2
  let g := signS l s2 [0, 1, 2]
  let r := rowsS l g.2
  let z := endS l r.2 r.1.2 (fineS g.1 r.1.1)
  if z.2 = 0 then ⟨g.1, r.1.1, z.1, 0⟩ else ⟨0, [], z.1, z.2⟩
theorem readSet_runs {v : Value} {l : List Nat} (hr : BRow h v l) (hl : l.length ≤ 100000) (hby : ∀ b ∈ l, b < 256) (hf : f ≤ h.size) :
    callR X ⟨f, []⟩ 11 [v] h fun r h' => ∃ w, r = .tuple #[.int .i64 (readSetS l).st, w, .int .i64 (readSetS l).at_, .int .i64 (readSetS l).e] ∧ KeepB h h' none ∧ SRow h' w (readSetS l).xs ∧ (readSetS l).xs.length ≤ 100000 := by
  refine callR_of rfl f11_is ?_
  simp only [f11r0, f11r1, f11r2, f11r3, f11r4, f11r5, f11r6, f11r7, f11r8, f11r9, f11b]
  obtain ⟨a, c, rfl⟩ := hr.form
  have hne : ∀ x, h.size ≤ x → blk (.slice a l.length c) ≠ some x := fun x hx q => by have := hr.blt q; omega
  have r0 : Rdr h.size (h.push (.cells [.slice a l.length c, .int .i64 0, .bool false] 68)) h.size (.slice a l.length c) l (0, false) :=
    ⟨Nat.le_refl _, by simp, hr.push _, hne _ (Nat.le_refl _), by simp, hl, hby⟩
  repeat (first
 | refine za ?_ | refine zb ?_ | refine zc ?_ | refine zd ?_ | refine ze ?_ | refine zf ?_ | refine zg ?_ | refine zh ?_ | (refine zi ?_; try refine RgD_plain rfl ?_) | refine w_drawn rfl ?_ | refine zj ?_ | refine zl ?_
 | ((first | apply zs | (apply zt; (focus rfl)) | (apply zu; (focus rfl)) | (apply zv; (focus rfl)) | apply zx | apply zy | apply zB | apply zC | apply zD | apply zE | apply zF); (focus ((conv => lhs; simp); first | done | rfl)); first | apply zk | (apply zn; (focus rfl); try (focus (first | rfl | (simp; done)))) | (apply zo; (focus rfl)) | apply gv_u | apply gv_tt | apply gv_ff | apply gv_ft | apply gv_tf))
  (apply zW; (focus ((conv => lhs; simp); first | done | rfl)); (focus exact length_runs r0 rfl)); intro v' h' q
  obtain ⟨r1, k1⟩ := q
  repeat (first
 | refine za ?_ | refine zb ?_ | refine zc ?_ | refine zd ?_ | refine ze ?_ | refine zf ?_ | refine zg ?_ | refine zh ?_ | (refine zi ?_; try refine RgD_plain rfl ?_) | refine w_drawn rfl ?_ | refine zj ?_ | refine zl ?_
 | ((first | apply zs | (apply zt; (focus rfl)) | (apply zu; (focus rfl)) | (apply zv; (focus rfl)) | apply zx | apply zy | apply zB | apply zC | apply zD | apply zE | apply zF); (focus ((conv => lhs; simp); first | done | rfl)); first | apply zk | (apply zn; (focus rfl); try (focus (first | rfl | (simp; done)))) | (apply zo; (focus rfl)) | apply gv_u | apply gv_tt | apply gv_ff | apply gv_ft | apply gv_tf))
  have hx1 : BRow (h'.push (.cells [.int .u8 1] 5)) (.slice (some ⟨h'.size, 0, none⟩) 1 1) [1] := Buf.row (f := 0) (.inr ⟨_, 1, rfl, rfl, by simp [bvs, bv], by simp⟩) (by omega) rfl
  (apply zW; (focus ((conv => lhs; simp); first | done | rfl)); (focus exact sign_runs (r1.push _) hx1 (by simp))); intro v' h' q
  obtain ⟨e2, r2, k2⟩ := q
  subst e2
  repeat (first
 | refine za ?_ | refine zb ?_ | refine zc ?_ | refine zd ?_ | refine ze ?_ | refine zf ?_ | refine zg ?_ | refine zh ?_ | (refine zi ?_; try refine RgD_plain rfl ?_) | refine w_drawn rfl ?_ | refine zj ?_ | refine zl ?_
 | ((first | apply zs | (apply zt; (focus rfl)) | (apply zu; (focus rfl)) | (apply zv; (focus rfl)) | apply zx | apply zy | apply zB | apply zC | apply zD | apply zE | apply zF); (focus ((conv => lhs; simp); first | done | rfl)); first | apply zk | (apply zn; (focus rfl); try (focus (first | rfl | (simp; done)))) | (apply zo; (focus rfl)) | apply gv_u | apply gv_tt | apply gv_ff | apply gv_ft | apply gv_tf))
  generalize hs2 : (signS l (lengthS l (0, false)) [1]).2 = s2 at *
  rename_i h2
  have hx2 : BRow (h'.push (.cells [.int .u8 0, .int .u8 1, .int .u8 2] 5)) (.slice (some ⟨h'.size, 0, none⟩) 3 3) [0, 1, 2] := Buf.row (f := 0) (.inr ⟨_, 3, rfl, rfl, by simp [bvs, bv], by simp⟩) (by omega) rfl
  (apply zW; (focus ((conv => lhs; simp); first | done | rfl)); (focus exact sign_runs (r2.push _) hx2 (by simp))); intro v' h' q
  obtain ⟨e3, r3, k3⟩ := q
  subst e3
  generalize hg : signS l s2 [0, 1, 2] = g at *
  have hz3' := r3.lt
  have hz3 : h.size ≤ h'.size := by have := r3.lt; omega
  repeat (first
 | refine za ?_ | refine zb ?_ | refine zc ?_ | refine zd ?_ | refine ze ?_ | refine zf ?_ | refine zg ?_ | refine zh ?_ | (refine zi ?_; try refine RgD_plain rfl ?_) | refine w_drawn rfl ?_ | refine zj ?_ | refine zl ?_
 | ((first | apply zs | (apply zt; (focus rfl)) | (apply zu; (focus rfl)) | (apply zv; (focus rfl)) | apply zx | apply zy | apply zB | apply zC | apply zD | apply zE | apply zF); (focus ((conv => lhs; simp [hz3]); first | done | rfl)); first | apply zk | (apply zn; (focus rfl); try (focus (first | rfl | (simp [hz3]; done)))) | (apply zo; (focus rfl)) | apply gv_u | apply gv_tt | apply gv_ff | apply gv_ft | apply gv_tf))
  rename_i h3
  (apply zW; (focus ((conv => lhs; simp); first | done | rfl)); (focus exact rows_runs (r3.push _))); intro v' h' q
  obtain ⟨w, e4, b4, hbl4, r4, k4, hl4⟩ := q
  subst e4
  generalize hrw : rowsS l g.2 = rw4 at *
  have hz4 : h.size ≤ h'.size := by have := r4.lt; omega
  have hz34 := k4.1
  simp at hz34
  rename_i h4
  have hrow4 : SRow h' w rw4.1.1 := b4.row (by omega) (by rw [elems_len spC_len])
  obtain ⟨aw, cw, rfl⟩ := hrow4.form
  have n4 : ¬ h4.size = h'.size := by omega
  have c4 : h'.cellsAt h4.size = some [.int .i64 g.1] := by rw [k4.cells (by simp) (by simp; omega)]; simp
  have c1 : Heap.cellsAt (h'.push (.cells [.slice aw rw4.1.1.length cw] 38)) h4.size = some [.int .i64 g.1] := by rw [cellsAt_push, if_neg n4, c4]
  have c2 : Heap.cellsAt (h'.push (.cells [.slice aw rw4.1.1.length cw] 38)) h'.size = some [.slice aw rw4.1.1.length cw] := by simp
  generalize hz : endS l rw4.2 rw4.1.2 (fineS g.1 rw4.1.1) = z
  have hend := end_runs (begins := rw4.1.2) (r4.push (.cells [.slice aw rw4.1.1.length cw] 38)) (readSet1_runs c1 c2 (hrow4.push _) hl4)
  rw [hz] at hend
  by_cases he : z.2 = 0
  · have e : readSetS l = ⟨g.1, rw4.1.1, z.1, 0⟩ := by simp only [readSetS, hs2, hg, hrw, hz, he, if_true]
    have t1 : (z.2 != 0) = false := by simp [he]
    have t2 : z.2 = 0 := he
    rw [e]
    obtain ⟨w', h5, f1, f2, f3, f4⟩ := finish_tup (f := f) (h := h'.push (.cells [.slice aw rw4.1.1.length cw] 38)) (as_ := [.int .i64 g.1]) (bs := [.int .i64 z.1, .int .i64 0]) (b4.push _) (by omega) (by rw [elems_len spC_len]) hf (all_below_ints (elems_ints spC_ints _)) (by simp) (by simp)
    repeat (first
 | refine za ?_ | refine zb ?_ | refine zc ?_ | refine zd ?_ | refine ze ?_ | refine zf ?_ | refine zg ?_ | refine zh ?_ | (refine zi ?_; try refine RgD_plain rfl ?_) | refine w_drawn rfl ?_ | refine zj ?_ | refine zl ?_
 | ((first | apply zs | (apply zt; (focus rfl)) | (apply zu; (focus rfl)) | (apply zv; (focus rfl)) | apply zw | apply zx | apply zy | apply zB | apply zC | apply zD | apply zE | apply zF); (focus ((conv => lhs; simp [hz4, c4, n4, t1]); first | done | rfl)); first | apply zk | (apply zn; (focus rfl); try (focus (first | rfl | (simp [hz4, c4, n4, t1]; done)))) | (apply zo; (focus rfl)) | apply gv_u | apply gv_tt | apply gv_ff | apply gv_ft | apply gv_tf | exact hend))
    exact w_endr (vs := [.int .i64 g.1, .slice aw rw4.1.1.length cw, .int .i64 z.1, .int .i64 0]) (by simp [c4, n4]) f1 ⟨w', rfl, f2, f4, hl4⟩
  · have e : readSetS l = ⟨0, [], z.1, z.2⟩ := by simp only [readSetS, hs2, hg, hrw, hz, he, if_false]
    have t1 : (z.2 != 0) = true := by simp [he]
    rw [e]
    repeat (first
 | refine za ?_ | refine zb ?_ | refine zc ?_ | refine zd ?_ | refine ze ?_ | refine zf ?_ | refine zg ?_ | refine zh ?_ | (refine zi ?_; try refine RgD_plain rfl ?_) | refine w_drawn rfl ?_ | refine zj ?_ | refine zl ?_
 | ((first | apply zs | (apply zt; (focus rfl)) | (apply zu; (focus rfl)) | (apply zv; (focus rfl)) | apply zw | apply zx | apply zy | apply zB | apply zC | apply zD | apply zE | apply zF); (focus ((conv => lhs; simp [hz4, c4, n4, t1]); first | done | rfl)); first | apply zk | (apply zn; (focus rfl); try (focus (first | rfl | (simp [hz4, c4, n4, t1]; done)))) | (apply zo; (focus rfl)) | apply gv_u | apply gv_tt | apply gv_ff | apply gv_ft | apply gv_tf | exact hend))
    exact ⟨_, rfl, .refl _ _, Buf.row (f := 0) (.inl ⟨rfl, rfl⟩) (by omega) rfl, by simp⟩
end Go.Proofs.YtmjaanhphkbkeaaGreat
end

section
namespace Go.Proofs.YtmjaanhphkbkeaaGreat
open Go.AM
set_option linter.unusedSimpArgs false
set_option linter.unusedVariables false
variable {f : Nat} {h : Heap}
theorem fine7_runs {w : Value} {gs : List Sg} {st z : Int} {ab : Bool} (hr : GRow h w gs) (hl : gs.length ≤ 100000) :
    Runs X ⟨f, []⟩ 8 [.agg #[.bool false, .int .i64 st, .bool ab, .int .i64 z, w]] h (.bool (right10 st && fineS st (gs.map (·.s)))) h := by
  refine callR.toRuns (callR_of rfl f8_is ?_)
  simp only [f8r0, f8r1, f8r2, f8r3, f8b]
  have ho : one w = true := by obtain ⟨a, c, rfl⟩ := hr.form; rfl
  cases hri : right10 st with
  | false =>
    repeat (first
 | refine za ?_ | refine zb ?_ | refine zc ?_ | refine zd ?_ | refine ze ?_ | refine zf ?_ | refine zg ?_ | refine zh ?_ | (refine zi ?_; try refine RgD_plain rfl ?_) | refine w_drawn rfl ?_ | refine zj ?_ | refine zl ?_
 | ((first | apply zs | (apply zt; (focus rfl)) | (apply zu; (focus rfl)) | (apply zv; (focus rfl)) | apply zw | apply zx | apply zy | apply zB | apply zC | apply zD | apply zE | apply zF); (focus ((conv => lhs; simp [hri, ho]); first | done | rfl)); first | apply zk | (apply zn; (focus rfl); try (focus (first | rfl | (simp [hri, ho]; done)))) | (apply zo; (focus rfl)) | apply gv_u | apply gv_tt | apply gv_ff | apply gv_ft | apply gv_tf | exact right10_runs))
    exact ⟨rfl, rfl⟩
  | true =>
    repeat (first
 | refine za ?_ | refine zb ?_ | refine zc ?_ | refine zd ?_ | refine ze ?_ | refine zf ?_ | refine zg ?_ | refine zh ?_ | (refine zi ?_; try refine RgD_plain rfl ?_) | refine w_drawn rfl ?_ | refine zj ?_ | refine zl ?_
 | ((first | apply zs | (apply zt; (focus rfl)) | (apply zu; (focus rfl)) | (apply zv; (focus rfl)) | apply zw | apply zx | apply zy | apply zB | apply zC | apply zD | apply zE | apply zF); (focus ((conv => lhs; simp [hri, ho]); first | done | rfl)); first | apply zk | (apply zn; (focus rfl); try (focus (first | rfl | (simp [hri, ho]; done)))) | (apply zo; (focus rfl)) | apply gv_u | apply gv_tt | apply gv_ff | apply gv_ft | apply gv_tf | exact right10_runs))
    (apply zW; (focus ((conv => lhs; simp [hri]); first | done | rfl)); (focus exact spans_runs (hr.push _) hl (by simp))); intro v' h' q
    obtain ⟨k1, b1, r1⟩ := q
    have hc : h'.cellsAt h.size = some [.bool false, .int .i64 st, .bool ab, .int .i64 z, w] := by rw [k1.cells (by simp) (by simp)]; simp
    repeat (first
 | refine za ?_ | refine zb ?_ | refine zc ?_ | refine zd ?_ | refine ze ?_ | refine zf ?_ | refine zg ?_ | refine zh ?_ | (refine zi ?_; try refine RgD_plain rfl ?_) | refine w_drawn rfl ?_ | refine zj ?_ | refine zl ?_
 | ((first | apply zs | (apply zt; (focus rfl)) | (apply zu; (focus rfl)) | (apply zv; (focus rfl)) | apply zw | apply zx | apply zy | apply zB | apply zC | apply zD | apply zE | apply zF); (focus ((conv => lhs; simp [hri, hc]); first | done | rfl)); first | apply zk | (apply zn; (focus rfl); try (focus (first | rfl | (simp [hri, hc]; done)))) | (apply zo; (focus rfl)) | apply gv_u | apply gv_tt | apply gv_ff | apply gv_ft | apply gv_tf | exact (fine2_runs r1 (by simp <;> omega))))
    exact ⟨rfl, rfl⟩
/-! ### what is written -/
def cutsB (s : Sp) : List Nat := cutB (s.a, s.b) ++ cutB (s.c, s.d)
def bodyB (st : Int) (xs : List Sp) : List Nat := [1, st.toNat] ++ numB (zig xs.length) ++ xs.flatMap cutsB
def setB (st : Int) (xs : List Sp) : List Nat := if right10 st = true ∧ fineS st xs = true then numB (zig (bodyB st xs).length) ++ bodyB st xs else []
def rngI (n : Int) : Prop := -9223372036854775808 ≤ n ∧ n ≤ 9223372036854775807
def Sp.rng (s : Sp) : Prop := rngI s.b ∧ rngI s.d
theorem cutsB_len {s : Sp} (h : s.rng) : (cutsB s).length ≤ 22 := by
  have h1 := cut_len (c := (s.a, s.b)) h.1
  have h2 := cut_len (c := (s.c, s.d)) h.2
  simp [cutsB]; omega
theorem flat_len {α : Type} {g : α → List Nat} {m : Nat} : ∀ (xs : List α), (∀ s ∈ xs, (g s).length ≤ m) → (xs.flatMap g).length ≤ m * xs.length
  | [], _ => by simp
  | s :: xs, h => by
    have := flat_len xs (fun t ht => h t (by simp [ht]))
    have := h s (by simp)
    simp only [List.flatMap_cons, List.length_append, List.length_cons]; rw [Nat.mul_add]; omega
theorem set_runs {v : Value} {xs : List Sp} {st : Int} (hr : SRow h v xs) (hl : xs.length ≤ 10000) (hx : ∀ s ∈ xs, s.rng) (hf : f ≤ h.size) :
    callR X ⟨f, []⟩ 15 [.int .i64 st, v] h fun w h' => KeepB h h' none ∧ Buf f h' 5 1 w (bvs (setB st xs)) ∧ BRow h' w (setB st xs) := by
  refine callR_of rfl f15_is ?_
  simp only [f15r0, f15r1, f15r2, f15r3, f15r4, f15r5, f15r6, f15r7, f15r8, f15l9, f15r10, f15b]
  obtain ⟨a, c, rfl⟩ := hr.form
  have hfin : Runs X ⟨h.size, []⟩ 39 [.int .i64 st, .slice a xs.length c] h (.bool (fineS st xs)) h := iset_fine_runs hr (by omega)
  have hnil : KeepB h h none ∧ Buf f h 5 1 (.slice none 0 0) (bvs []) ∧ BRow h (.slice none 0 0) [] := ⟨.refl _ _, .inl ⟨rfl, rfl⟩, Buf.row (f := 0) (.inl ⟨rfl, rfl⟩) (by omega) rfl⟩
  by_cases hlo : st < 0
  · have e : setB st xs = [] := by rw [setB, if_neg]; simp [right10]; omega
    rw [e]
    repeat (first
 | refine za ?_ | refine zb ?_ | refine zc ?_ | refine zd ?_ | refine ze ?_ | refine zf ?_ | refine zg ?_ | refine zh ?_ | (refine zi ?_; try refine RgD_plain rfl ?_) | refine w_drawn rfl ?_ | refine zj ?_ | refine zl ?_
 | ((first | apply zs | (apply zt; (focus rfl)) | (apply zu; (focus rfl)) | (apply zv; (focus rfl)) | apply zx | apply zy | apply zB | apply zC | apply zD | apply zE | apply zF); (focus ((conv => lhs; simp [hlo]); first | done | rfl)); first | apply zk | (apply zn; (focus rfl); try (focus (first | rfl | (simp [hlo]; done)))) | (apply zo; (focus rfl)) | apply gv_u | apply gv_tt | apply gv_ff | apply gv_ft | apply gv_tf))
    exact hnil
  · by_cases hhi : st > 2
    · have e : setB st xs = [] := by rw [setB, if_neg]; simp [right10]; omega
      have hhi' : decide (2 < st) = true := by simp; omega
      have hlo' : decide (st < 0) = false := by simp; omega
      rw [e]
      repeat (first
 | refine za ?_ | refine zb ?_ | refine zc ?_ | refine zd ?_ | refine ze ?_ | refine zf ?_ | refine zg ?_ | refine zh ?_ | (refine zi ?_; try refine RgD_plain rfl ?_) | refine w_drawn rfl ?_ | refine zj ?_ | refine zl ?_
 | ((first | apply zs | (apply zt; (focus rfl)) | (apply zu; (focus rfl)) | (apply zv; (focus rfl)) | apply zx | apply zy | apply zB | apply zC | apply zD | apply zE | apply zF); (focus ((conv => lhs; simp [hlo', hhi']); first | done | rfl)); first | apply zk | (apply zn; (focus rfl); try (focus (first | rfl | (simp [hlo', hhi']; done)))) | (apply zo; (focus rfl)) | apply gv_u | apply gv_tt | apply gv_ff | apply gv_ft | apply gv_tf))
      exact hnil
    · have hhi' : decide (2 < st) = false := by simp; omega
      have hlo' : decide (st < 0) = false := by simp; omega
      cases hfi : fineS st xs with
      | false =>
        have e : setB st xs = [] := by rw [setB, if_neg]; simp [hfi]
        rw [hfi] at hfin
        rw [e]
        repeat (first
 | refine za ?_ | refine zb ?_ | refine zc ?_ | refine zd ?_ | refine ze ?_ | refine zf ?_ | refine zg ?_ | refine zh ?_ | (refine zi ?_; try refine RgD_plain rfl ?_) | refine w_drawn rfl ?_ | refine zj ?_ | refine zl ?_
 | ((first | apply zs | (apply zt; (focus rfl)) | (apply zu; (focus rfl)) | (apply zv; (focus rfl)) | apply zw | apply zx | apply zy | apply zB | apply zC | apply zD | apply zE | apply zF); (focus ((conv => lhs; simp [hlo', hhi']); first | done | rfl)); first | apply zk | (apply zn; (focus rfl); try (focus (first | rfl | (simp [hlo', hhi']; done)))) | (apply zo; (focus rfl)) | apply gv_u | apply gv_tt | apply gv_ff | apply gv_ft | apply gv_tf | exact hfin))
        exact hnil
      | true =>
        have e : setB st xs = numB (zig (bodyB st xs).length) ++ bodyB st xs := by rw [setB, if_pos]; simp [hfi, right10]; omega
        rw [hfi] at hfin
        rw [e]
        repeat (first
 | refine za ?_ | refine zb ?_ | refine zc ?_ | refine zd ?_ | refine ze ?_ | refine zf ?_ | refine zg ?_ | refine zh ?_ | (refine zi ?_; try refine RgD_plain rfl ?_) | refine w_drawn rfl ?_ | refine zj ?_ | refine zl ?_
 | ((first | apply zs | (apply zt; (focus rfl)) | (apply zu; (focus rfl)) | (apply zv; (focus rfl)) | apply zw | apply zx | apply zy | apply zB | apply zC | apply zD | apply zE | apply zF); (focus ((conv => lhs; simp [hlo', hhi']); first | done | rfl)); first | apply zk | (apply zn; (focus rfl); try (focus (first | rfl | (simp [hlo', hhi']; done)))) | (apply zo; (focus rfl)) | apply gv_u | apply gv_tt | apply gv_ff | apply gv_ft | apply gv_tf | exact hfin))
        have hst : IntKind.u8.wrap st = (st.toNat : Int) := by rw [wrap8']; omega
        rw [hst]
        have b0 : Buf h.size (h.push (.cells [.int .u8 1, .int .u8 (st.toNat : Int)] 5)) 5 1 (.slice (some ⟨h.size, 0, none⟩) 2 2) (bvs [1, st.toNat]) := .inr ⟨_, 2, rfl, rfl, by simp [bvs, bv], Nat.le_refl _⟩
        (apply zW; (focus ((conv => lhs; simp); first | done | rfl)); (focus exact num_runs (l := bvs [1, st.toNat]) (by simp) b0 (bvs_one _) (by simp) (by omega))); intro v' h' q
        have hnl := num_len (n := (xs.length : Nat)) (by omega)
        repeat (first
 | refine za ?_ | refine zb ?_ | refine zc ?_ | refine zd ?_ | refine ze ?_ | refine zf ?_ | refine zg ?_ | refine zh ?_ | (refine zi ?_; try refine RgD_plain rfl ?_) | refine w_drawn rfl ?_ | refine zj ?_ | refine zl ?_
 | ((first | apply zs | (apply zt; (focus rfl)) | (apply zu; (focus rfl)) | (apply zv; (focus rfl)) | apply zx | apply zy | apply zB | apply zC | apply zD | apply zE | apply zF); (focus ((conv => lhs; simp); first | done | rfl)); first | apply zk | (apply zn; (focus rfl); try (focus (first | rfl | (simp; done)))) | (apply zo; (focus rfl)) | apply gv_u | apply gv_tt | apply gv_ff | apply gv_ft | apply gv_tf))
        have q' : Grow h.size 5 1 (h.push (.cells [.int .u8 1, .int .u8 (st.toNat : Int)] 5)) h' (.slice (some ⟨h.size, 0, none⟩) 2 2) v' (bvs ([1, st.toNat] ++ numB (zig xs.length))) := by rw [bvs_append]; exact q
        generalize hpre : [1, st.toNat] ++ numB (zig xs.length) = pre at *
        have hprel : pre.length ≤ 12 := by rw [← hpre]; simp; omega
        have hbody : bodyB st xs = pre ++ xs.flatMap cutsB := by rw [bodyB, hpre]
        have hk0 : KeepB h h' none := KeepB_new ((KeepB.refl h none).push _) q'.keep (.inr ⟨_, rfl, Nat.le_refl _⟩)
        refine w_loop (A := Nat × Value) (fun A env h1 => A.1 ≤ xs.length ∧ env 26 = .slice a xs.length c ∧ env 27 = .int .i64 xs.length ∧ env 28 = .int .i64 A.1 ∧ env 5 = A.2 ∧ KeepB h h1 none ∧ Buf h.size h1 5 1 A.2 (bvs (pre ++ (xs.take A.1).flatMap cutsB)) ∧ (blk A.2 = none ∨ ∃ b, blk A.2 = some b ∧ h.size ≤ b)) (fun A => xs.length - A.1) (a0 := (0, v'))
          ⟨by simp, by simp, by simp, by simp, by simp, hk0, by simpa using q'.buf, ?_⟩ ?_
        · rcases q'.blk with e | ⟨b, e, hb⟩
          · exact .inr ⟨h.size, by rw [e]; rfl, Nat.le_refl _⟩
          · simp at hb; exact .inr ⟨b, e, by omega⟩
        rintro ⟨i, w⟩ env h1 ⟨hi, e26, e27, e28, e5, hk, hb, hbl⟩
        simp only at hi e26 e27 e28 e5 hk hb hbl
        have hlen : ∀ n, (pre ++ (xs.take n).flatMap cutsB).length ≤ 12 + 22 * xs.length := by
          intro n
          have h1 := flat_len (m := 22) (g := cutsB) (xs.take n) (fun s hs => cutsB_len (hx s (List.mem_of_mem_take hs)))
          have : (xs.take n).length ≤ xs.length := by rw [List.length_take]; omega
          rw [List.length_append]
          have : 22 * (xs.take n).length ≤ 22 * xs.length := Nat.mul_le_mul_left _ this
          omega
        by_cases hlt : i < xs.length
        · obtain ⟨s, hx1, hd⟩ := elem_at hlt
          obtain ⟨b, o, cs, rfl, hb1, hc, hga⟩ := (hr.keepB hk (.inl rfl)).all spC_len (by omega)
          have hg : grab cs (o + i * 4) 4 = some [.int .i64 s.a, .int .i64 s.b, .int .i64 s.c, .int .i64 s.d] := hga i s hx1 hlt
          have hsr := hx s (List.mem_of_getElem? hx1)
          have n1 : ¬ b = h1.size := by omega
          have hk1 := hk.1
          have w1 := wadd (i := i) (by omega)
          have hli := hlen i
          repeat (first
 | refine za ?_ | refine zb ?_ | refine zc ?_ | refine zd ?_ | refine ze ?_ | refine zf ?_ | refine zg ?_ | refine zh ?_ | (refine zi ?_; try refine RgD_plain rfl ?_) | refine w_drawn rfl ?_ | refine zj ?_ | refine zl ?_
 | ((first | apply zs | (apply zt; (focus rfl)) | (apply zu; (focus rfl)) | (apply zv; (focus rfl)) | apply zx | apply zy | apply zB | apply zC | apply zD | apply zE | apply zF); (focus ((conv => lhs; simp [e26, e27, e28, e5, hlt, hc, hg, n1, hk1]); first | done | rfl)); first | apply zk | (apply zn; (focus rfl); try (focus (first | rfl | (simp [e26, e27, e28, e5, hlt, hc, hg, n1, hk1]; done)))) | (apply zo; (focus rfl)) | apply gv_u | apply gv_tt | apply gv_ff | apply gv_ft | apply gv_tf))
          (apply zW; (focus ((conv => lhs; simp [e26, e27, e28, e5]); first | done | rfl)); (focus exact cut_runs (l := pre ++ (xs.take i).flatMap cutsB) (by simp; omega) (hb.push _) (by omega) hsr.1)); intro v2 h2 q2
          have hbn : blk w ≠ some h1.size := fun q => by have := hb.lt q; omega
          have hc2 : h2.cellsAt h1.size = some [.int .i64 s.a, .int .i64 s.b, .int .i64 s.c, .int .i64 s.d] := by rw [q2.cells (by simp) hbn]; simp
          repeat (first
 | refine za ?_ | refine zb ?_ | refine zc ?_ | refine zd ?_ | refine ze ?_ | refine zf ?_ | refine zg ?_ | refine zh ?_ | (refine zi ?_; try refine RgD_plain rfl ?_) | refine w_drawn rfl ?_ | refine zj ?_ | refine zl ?_
 | ((first | apply zs | (apply zt; (focus rfl)) | (apply zu; (focus rfl)) | (apply zv; (focus rfl)) | apply zx | apply zy | apply zB | apply zC | apply zD | apply zE | apply zF); (focus ((conv => lhs; simp [e26, e27, e28, e5, hc2]); first | done | rfl)); first | apply zk | (apply zn; (focus rfl); try (focus (first | rfl | (simp [e26, e27, e28, e5, hc2]; done)))) | (apply zo; (focus rfl)) | apply gv_u | apply gv_tt | apply gv_ff | apply gv_ft | apply gv_tf))
          (apply zW; (focus ((conv => lhs; simp [e26, e27, e28, e5]); first | done | rfl)); (focus exact cut_runs (l := pre ++ (xs.take i).flatMap cutsB ++ cutB (s.a, s.b)) q2.fs q2.buf (by have := cut_len (c := (s.a, s.b)) hsr.1; rw [List.length_append]; omega) hsr.2)); intro v3 h3 q3
          repeat (first
 | refine za ?_ | refine zb ?_ | refine zc ?_ | refine zd ?_ | refine ze ?_ | refine zf ?_ | refine zg ?_ | refine zh ?_ | (refine zi ?_; try refine RgD_plain rfl ?_) | refine w_drawn rfl ?_ | refine zj ?_ | refine zl ?_
 | ((first | apply zs | (apply zt; (focus rfl)) | (apply zu; (focus rfl)) | (apply zv; (focus rfl)) | apply zx | apply zy | apply zB | apply zC | apply zD | apply zE | apply zF); (focus ((conv => lhs; simp [e26, e27, e28, e5, w1]); first | done | rfl)); first | apply zk | (apply zn; (focus rfl); try (focus (first | rfl | (simp [e26, e27, e28, e5, w1]; done)))) | (apply zo; (focus rfl)) | apply gv_u | apply gv_tt | apply gv_ff | apply gv_ft | apply gv_tf))
          have q4 := (q2.trans q3).pre
          have ht : xs.take (i + 1) = xs.take i ++ [s] := by rw [List.take_add_one, hx1]; rfl
          refine ⟨(i + 1, v3), ⟨by simp only; omega, by simp [e26], by simp [e27], by simp, by simp, KeepB_new hk q4.keep hbl, ?_, ?_⟩, by simp only; omega⟩
          · have := q4.buf
            rw [ht]
            simpa [cutsB] using this
          · rcases q4.blk with q | ⟨b, q, hb⟩
            · rw [q]; exact hbl
            · exact .inr ⟨b, q, by omega⟩
        · have ht : xs.take i = xs := List.take_of_length_le (by omega)
          have hli := hlen i
          rw [ht, ← hbody] at hb hli
          have hpos : 0 < (bodyB st xs).length := by simp [bodyB]
          repeat (first
 | refine za ?_ | refine zb ?_ | refine zc ?_ | refine zd ?_ | refine ze ?_ | refine zf ?_ | refine zg ?_ | refine zh ?_ | (refine zi ?_; try refine RgD_plain rfl ?_) | refine w_drawn rfl ?_ | refine zj ?_ | refine zl ?_
 | ((first | apply zs | (apply zt; (focus rfl)) | (apply zu; (focus rfl)) | (apply zv; (focus rfl)) | apply zx | apply zy | apply zB | apply zC | apply zD | apply zE | apply zF); (focus ((conv => lhs; simp [e26, e27, e28, e5, hlt]); first | done | rfl)); first | apply zk | (apply zn; (focus rfl); try (focus (first | rfl | (simp [e26, e27, e28, e5, hlt]; done)))) | (apply zo; (focus rfl)) | apply gv_u | apply gv_tt | apply gv_ff | apply gv_ft | apply gv_tf))
          (apply zW; (focus ((conv => lhs; simp [e26, e27, e28, e5]); first | done | rfl)); (focus exact sized_runs (l := bodyB st xs) hk.1 (hb.row (by omega) (by simp)) (by omega) hpos)); intro v2 h2 q2
          obtain ⟨v4, h4, f1, f2, f3, f4⟩ := finish_buf (f := f) (n := (numB (zig (bodyB st xs).length) ++ bodyB st xs).length) q2.buf (by omega) (by simp) hf (all_below_ints (fun v hv => by simp [bvs, bv] at hv; rcases hv with ⟨a, _, rfl⟩ | ⟨a, _, rfl⟩ <;> exact ⟨_, _, rfl⟩))
          repeat (first
 | refine za ?_ | refine zb ?_ | refine zc ?_ | refine zd ?_ | refine ze ?_ | refine zf ?_ | refine zg ?_ | refine zh ?_ | (refine zi ?_; try refine RgD_plain rfl ?_) | refine w_drawn rfl ?_ | refine zj ?_ | refine zl ?_
 | ((first | apply zs | (apply zt; (focus rfl)) | (apply zu; (focus rfl)) | (apply zv; (focus rfl)) | apply zx | apply zy | apply zB | apply zC | apply zD | apply zE | apply zF); (focus ((conv => lhs; simp); first | done | rfl)); first | apply zk | (apply zn; (focus rfl); try (focus (first | rfl | (simp; done)))) | (apply zo; (focus rfl)) | apply gv_u | apply gv_tt | apply gv_ff | apply gv_ft | apply gv_tf))
          exact w_endr (vs := [v2]) (by simp) f1 ⟨f2, f3, f4⟩
end Go.Proofs.YtmjaanhphkbkeaaGreat
end
