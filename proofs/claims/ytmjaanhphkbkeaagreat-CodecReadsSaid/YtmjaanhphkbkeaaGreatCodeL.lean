import Derived.Test.YtmjaanhphkbkeaaGreatCodeK
set_option linter.all false
section
namespace Go.Proofs.YtmjaanhphkbkeaaGreat
open Go.AM
set_option linter.unusedSimpArgs false
set_option linter.unusedVariables false
variable {f : Nat} {h : Heap}
@[simp] theorem size_ne2 {n : Nat} : (n = n + 1 + 1) = False := by simp; omega
@[simp] theorem size_ne3 {n : Nat} : (n = n + 1 + 1 + 1) = False := by simp; omega
def segB (g : Sg) : List Nat := cutsB g.s ++ numB (zig g.v)
def headB (st : Int) (ab : Bool) (z : Int) : List Nat := [2, st.toNat] ++ (if ab then 1 :: numB (zig z) else [0])
def bodyM (st : Int) (ab : Bool) (z : Int) (gs : List Sg) : List Nat := headB st ab z ++ numB (zig gs.length) ++ gs.flatMap segB
def mapB (st : Int) (ab : Bool) (z : Int) (gs : List Sg) : List Nat := if rightR st ab z = true ∧ fineM st ab z gs = true then numB (zig (bodyM st ab z gs).length) ++ bodyM st ab z gs else []
def Sg.rng (g : Sg) : Prop := g.s.rng ∧ rngI g.v
theorem segB_len {g : Sg} (h : g.rng) : (segB g).length ≤ 32 := by
  have h1 := cutsB_len h.1
  have h2 := num_len h.2
  simp [segB]; omega
theorem headB_len {st z : Int} {ab : Bool} (h : rngI z) : (headB st ab z).length ≤ 13 := by
  have h2 := num_len h
  cases ab <;> simp [headB] <;> omega
theorem right_st {st z : Int} {ab : Bool} (h : rightR st ab z = true) : 0 ≤ st ∧ st ≤ 2 := by
  simp [rightR] at h; omega
set_option maxHeartbeats 4000000 in
theorem write7m_runs {w : Value} {gs : List Sg} {st z : Int} {ab : Bool} (hr : GRow h w gs) (hl : gs.length ≤ 10000) (hx : ∀ g ∈ gs, g.rng) (hzr : rngI z) :
    Runs X ⟨f, []⟩ 7 [.agg #[.bool true, .int .i64 st, .bool ab, .int .i64 z, w]] h (.string (strB (mapB st ab z gs))) h := by
  refine Runs_of rfl f7_is ?_
  simp only [f7r0, f7r1, f7r2, f7r3, f7r4, f7r5, f7r6, f7r7, f7r8, f7r9, f7r10, f7r11, f7r12, f7r13, f7r14, f7r15, f7l16, f7r17, f7b]
  have ho : one w = true := by obtain ⟨a, c, rfl⟩ := hr.form; rfl
  have hfi := fine8m_runs (f := h.size) (st := st) (z := z) (ab := ab) (hr.push (.cells [.bool true, .int .i64 st, .bool ab, .int .i64 z, w] 27)) (by omega)
  cases hok : (rightR st ab z && fineM st ab z gs) with
  | false =>
    have e : mapB st ab z gs = [] := by rw [mapB, if_neg]; simpa using hok
    rw [hok] at hfi
    rw [e]
    repeat (first
 | refine za ?_ | refine zb ?_ | refine zc ?_ | refine zd ?_ | refine ze ?_ | refine zf ?_ | refine zg ?_ | refine zh ?_ | (refine zi ?_; try refine RgD_plain rfl ?_) | refine w_drawn rfl ?_ | refine zj ?_ | refine zl ?_
 | ((first | apply zs | (apply zt; (focus rfl)) | (apply zu; (focus rfl)) | (apply zv; (focus rfl)) | apply zw | apply zx | apply zy | apply zB | apply zC | apply zD | apply zE | apply zF); (focus ((conv => lhs; simp [ho]); first | done | rfl)); first | apply zk | (apply zn; (focus rfl); try (focus (first | rfl | (simp [ho]; done)))) | (apply zo; (focus rfl)) | apply gv_u | apply gv_tt | apply gv_ff | apply gv_ft | apply gv_tf | exact hfi))
  | true =>
    have hok' : rightR st ab z = true ∧ fineM st ab z gs = true := by simpa using hok
    have e : mapB st ab z gs = numB (zig (bodyM st ab z gs).length) ++ bodyM st ab z gs := by rw [mapB, if_pos hok']
    rw [hok] at hfi
    rw [e]
    obtain ⟨k, hk⟩ : ∃ k, k = st.toNat := ⟨_, rfl⟩
    have hst2 := right_st hok'.1
    have hst : IntKind.u8.wrap st = (k : Int) := by rw [wrap8', hk]; omega
    have hb0 : binS .add ⟨#[1]⟩ ⟨#[UInt8.ofNat k]⟩ = some (.string (strB [1, k])) := binS_add (a := [1]) (b := [k]) (by simp) (by simp)
    have hb1 : binS .add ⟨#[2]⟩ ⟨#[UInt8.ofNat k]⟩ = some (.string (strB [2, k])) := binS_add (a := [2]) (b := [k]) (by simp) (by simp)
    have hnl := num_len (n := (gs.length : Nat)) (by omega)
    have hzl := num_len hzr
    have hhl := headB_len (st := st) (ab := ab) hzr
    have hb2 : binS .add (strB (headB st ab z)) (strB (numB (zig gs.length))) = some (.string (strB (headB st ab z ++ numB (zig gs.length)))) := binS_add (by omega) (by omega)
    have hb3 : binS .add (strB [2, k]) ⟨#[1]⟩ = some (.string (strB [2, k, 1])) := binS_add (b := [1]) (by simp) (by simp)
    have hb4 : binS .add (strB [2, k, 1]) (strB (numB (zig z))) = some (.string (strB ([2, k, 1] ++ numB (zig z)))) := binS_add (by simp) (by omega)
    have hb5 : binS .add (strB [2, k]) ⟨#[0]⟩ = some (.string (strB [2, k, 0])) := binS_add (b := [0]) (by simp) (by simp)
    obtain ⟨a, c, rfl⟩ := hr.form
    obtain ⟨hd0, hhd⟩ : ∃ x, x = headB st ab z := ⟨_, rfl⟩
    rw [← hhd] at hb2 hhl
    obtain ⟨pre, hpre⟩ : ∃ p, p = headB st ab z ++ numB (zig gs.length) := ⟨_, rfl⟩
    have hprel : pre.length ≤ 23 := by rw [hpre, ← hhd]; simp; omega
    have hbody : bodyM st ab z gs = pre ++ gs.flatMap segB := by rw [bodyM, hpre]
    have hloop : ∀ (env : Env) (hh : Heap), env 1 = .pointer (some ⟨h.size, 0, none⟩) → env 3 = .string (strB pre) → env 4 = .int .i64 0 → hh.cellsAt h.size = some [.bool true, .int .i64 st, .bool ab, .int .i64 z, .slice a gs.length c] → GRow hh (.slice a gs.length c) gs →
        Ok X ⟨h.size, []⟩ (.loop f7l16) env hh (blockQ 0 (thenQ (fun e h1 => Ok X ⟨h.size, []⟩ (.seq (.reg f7r17) .ret) e h1 (EndsQ [.tmp 2] .pure h (.string (strB (numB (zig (bodyM st ab z gs).length) ++ bodyM st ab z gs))) h)) (EndsQ [.tmp 2] .pure h (.string (strB (numB (zig (bodyM st ab z gs).length) ++ bodyM st ab z gs))) h))) := by
      intro env hh e1 e3 e4 hc hr1
      refine w_loop (A := Nat) (fun i env h1 => i ≤ gs.length ∧ env 1 = .pointer (some ⟨h.size, 0, none⟩) ∧ env 3 = .string (strB (pre ++ (gs.take i).flatMap segB)) ∧ env 4 = .int .i64 i ∧ h1.cellsAt h.size = some [.bool true, .int .i64 st, .bool ab, .int .i64 z, .slice a gs.length c] ∧ GRow h1 (.slice a gs.length c) gs) (fun i => gs.length - i) (a0 := 0)
        ⟨by omega, e1, by simpa using e3, by simpa using e4, hc, hr1⟩ ?_
      clear e1 e3 e4 hc hr1 env hh
      rintro i env h1 ⟨hi, e1, e3, e4, hc1, hr1⟩
      have hlen : ∀ n, (pre ++ (gs.take n).flatMap segB).length ≤ 23 + 32 * gs.length := by
        intro n
        have h1 := flat_len (m := 32) (g := segB) (gs.take n) (fun s hs => segB_len (hx s (List.mem_of_mem_take hs)))
        have : (gs.take n).length ≤ gs.length := by rw [List.length_take]; omega
        rw [List.length_append]
        have : 32 * (gs.take n).length ≤ 32 * gs.length := Nat.mul_le_mul_left _ this
        omega
      simp only [f7r0, f7r1, f7r2, f7r3, f7r4, f7r5, f7r6, f7r7, f7r8, f7r9, f7r10, f7r11, f7r12, f7r13, f7r14, f7r15, f7l16, f7r17, f7b]
      by_cases hlt : i < gs.length
      · obtain ⟨s, hx1, hd⟩ := elem_at hlt
        obtain ⟨b, o, cs, rfl, hb1, hc, hga⟩ := hr1.all sgC_len (by omega)
        have hg : grab cs (o + i * 5) 2 = some [.int .i64 s.s.a, .int .i64 s.s.b] := grab_sub (hga i s hx1 hlt) (p := 0) (m := 2) (by omega)
        have hg2 : grab cs (o + i * 5 + 2) 2 = some [.int .i64 s.s.c, .int .i64 s.s.d] := grab_sub (hga i s hx1 hlt) (p := 2) (m := 2) (by omega)
        have hgv : cs[o + i * 5 + 4]? = some (.int .i64 s.v) := grab_get (hga i s hx1 hlt) (p := 4) (by omega)
        have hsr := hx s (List.mem_of_getElem? hx1)
        have w1 := wadd (i := i) (by omega)
        have hli := hlen i
        have c1 := cut_len (c := (s.s.a, s.s.b)) hsr.1.1
        have c2 := cut_len (c := (s.s.c, s.s.d)) hsr.1.2
        have c3 := num_len hsr.2
        have ht : pre ++ (gs.take (i + 1)).flatMap segB = pre ++ (gs.take i).flatMap segB ++ cutB (s.s.a, s.s.b) ++ cutB (s.s.c, s.s.d) ++ numB (zig s.v) := by
          rw [List.take_add_one, hx1]; simp [cutsB, segB]
        generalize pre ++ (gs.take i).flatMap segB = acc at *
        have hA : binS .add (strB acc) (strB (cutB (s.s.a, s.s.b))) = some (.string (strB (acc ++ cutB (s.s.a, s.s.b)))) := binS_add (by omega) (by omega)
        have hB : binS .add (strB (acc ++ cutB (s.s.a, s.s.b))) (strB (cutB (s.s.c, s.s.d))) = some (.string (strB (acc ++ cutB (s.s.a, s.s.b) ++ cutB (s.s.c, s.s.d)))) := binS_add (by rw [List.length_append]; omega) (by omega)
        have hC : binS .add (strB (acc ++ cutB (s.s.a, s.s.b) ++ cutB (s.s.c, s.s.d))) (strB (numB (zig s.v))) = some (.string (strB (acc ++ cutB (s.s.a, s.s.b) ++ cutB (s.s.c, s.s.d) ++ numB (zig s.v)))) := binS_add (by rw [List.length_append, List.length_append]; omega) (by omega)
        obtain ⟨a1, ha1⟩ : ∃ x, x = acc ++ cutB (s.s.a, s.s.b) := ⟨_, rfl⟩
        rw [← ha1] at hA hB hC ht
        obtain ⟨a2, ha2⟩ : ∃ x, x = a1 ++ cutB (s.s.c, s.s.d) := ⟨_, rfl⟩
        rw [← ha2] at hB hC ht
        clear hga hr hfi hd hx1 ha1 ha2 hb0 hb1 hb2 hb3 hb4 hb5
        repeat (first
 | refine za ?_ | refine zb ?_ | refine zc ?_ | refine zd ?_ | refine ze ?_ | refine zf ?_ | refine zg ?_ | refine zh ?_ | (refine zi ?_; try refine RgD_plain rfl ?_) | refine w_drawn rfl ?_ | refine zj ?_ | refine zl ?_
 | ((first | apply zs | (apply zt; (focus rfl)) | (apply zu; (focus rfl)) | (apply zv; (focus rfl)) | apply zw | apply zx | apply zy | apply zB | apply zC | apply zD | apply zE | apply zF); (focus ((conv => lhs; simp [e1, e3, e4, hc1, hlt, hc, hg, hg2, hgv, w1, hA, hB, hC]); first | done | rfl)); first | apply zk | (apply zn; (focus rfl); try (focus (first | rfl | (simp [e1, e3, e4, hc1, hlt, hc, hg, hg2, hgv, w1, hA, hB, hC]; done)))) | (apply zo; (focus rfl)) | apply gv_u | apply gv_tt | apply gv_ff | apply gv_ft | apply gv_tf | exact (cut2_runs hsr.1.1) | exact (cut2_runs hsr.1.2) | exact (num2_runs hsr.2)))
        exact ⟨i + 1, ⟨by omega, by simp [e1], by rw [ht]; simp, by simp, hc1, hr1⟩, by omega⟩
      · have ht : gs.take i = gs := List.take_of_length_le (by omega)
        have hli := hlen i
        rw [ht, ← hbody] at hli e3
        have hll := num_len (n := ((bodyM st ab z gs).length : Nat)) (by omega)
        have hC : binS .add (strB (numB (zig (bodyM st ab z gs).length))) (strB (bodyM st ab z gs)) = some (.string (strB (numB (zig (bodyM st ab z gs).length) ++ bodyM st ab z gs))) := binS_add (by omega) (by omega)
        repeat (first
 | refine za ?_ | refine zb ?_ | refine zc ?_ | refine zd ?_ | refine ze ?_ | refine zf ?_ | refine zg ?_ | refine zh ?_ | (refine zi ?_; try refine RgD_plain rfl ?_) | refine w_drawn rfl ?_ | refine zj ?_ | refine zl ?_
 | ((first | apply zs | (apply zt; (focus rfl)) | (apply zu; (focus rfl)) | (apply zv; (focus rfl)) | apply zw | apply zx | apply zy | apply zB | apply zC | apply zD | apply zE | apply zF); (focus ((conv => lhs; simp [e1, e3, e4, hc1, hlt, hC]); first | done | rfl)); first | apply zk | (apply zn; (focus rfl); try (focus (first | rfl | (simp [e1, e3, e4, hc1, hlt, hC]; done)))) | (apply zo; (focus rfl)) | apply gv_u | apply gv_tt | apply gv_ff | apply gv_ft | apply gv_tf | exact (num2_runs (n := ((bodyM st ab z gs).length : Nat)) (by omega))))
    cases hab : ab with
    | true =>
      subst hab
      have hh : [2, k, 1] ++ numB (zig z) = hd0 := by rw [hhd]; simp [headB, hk]
      rw [hh] at hb4
      rw [← hhd] at hpre
      rw [← hpre] at hb2
      repeat (first
 | refine za ?_ | refine zb ?_ | refine zc ?_ | refine zd ?_ | refine ze ?_ | refine zf ?_ | refine zg ?_ | refine zh ?_ | (refine zi ?_; try refine RgD_plain rfl ?_) | refine w_drawn rfl ?_ | refine zj ?_ | refine zl ?_
 | ((first | apply zs | (apply zt; (focus rfl)) | (apply zu; (focus rfl)) | (apply zv; (focus rfl)) | apply zw | apply zx | apply zy | apply zB | apply zC | apply zD | apply zE | apply zF); (focus ((conv => lhs; simp [ho, hst, hb0, hb1, hb2, hb3, hb4, srcCells, bytesOf, Go.AM.byteOf]); first | done | rfl)); first | apply zk | (apply zn; (focus rfl); try (focus (first | rfl | (simp [ho, hst, hb0, hb1, hb2, hb3, hb4, srcCells, bytesOf, Go.AM.byteOf]; done)))) | (apply zo; (focus rfl)) | apply gv_u | apply gv_tt | apply gv_ff | apply gv_ft | apply gv_tf | exact hfi | exact (num2_runs hzr) | exact (num2_runs (n := gs.length) (by omega))))
      exact hloop _ _ (by simp) (by simp) (by simp) (by simp) (((hr.push _).push _).push _)
    | false =>
      subst hab
      have hh : [2, k, 0] = hd0 := by rw [hhd]; simp [headB, hk]
      rw [hh] at hb5
      rw [← hhd] at hpre
      rw [← hpre] at hb2
      repeat (first
 | refine za ?_ | refine zb ?_ | refine zc ?_ | refine zd ?_ | refine ze ?_ | refine zf ?_ | refine zg ?_ | refine zh ?_ | (refine zi ?_; try refine RgD_plain rfl ?_) | refine w_drawn rfl ?_ | refine zj ?_ | refine zl ?_
 | ((first | apply zs | (apply zt; (focus rfl)) | (apply zu; (focus rfl)) | (apply zv; (focus rfl)) | apply zw | apply zx | apply zy | apply zB | apply zC | apply zD | apply zE | apply zF); (focus ((conv => lhs; simp [ho, hst, hb0, hb1, hb2, hb5, srcCells, bytesOf, Go.AM.byteOf]); first | done | rfl)); first | apply zk | (apply zn; (focus rfl); try (focus (first | rfl | (simp [ho, hst, hb0, hb1, hb2, hb5, srcCells, bytesOf, Go.AM.byteOf]; done)))) | (apply zo; (focus rfl)) | apply gv_u | apply gv_tt | apply gv_ff | apply gv_ft | apply gv_tf | exact hfi | exact (num2_runs hzr) | exact (num2_runs (n := gs.length) (by omega))))
      exact hloop _ _ (by simp) (by simp) (by simp) (by simp) (((hr.push _).push _).push _)
end Go.Proofs.YtmjaanhphkbkeaaGreat
end

section
namespace Go.Proofs.YtmjaanhphkbkeaaGreat
open Go.AM
set_option linter.unusedSimpArgs false
set_option linter.unusedVariables false
variable {f : Nat} {h : Heap}
theorem bvs_ints (l : List Nat) : ∀ v ∈ bvs l, ∃ k m, v = .int k m := fun v hv => by simp [bvs, bv] at hv; obtain ⟨a, _, rfl⟩ := hv; exact ⟨_, _, rfl⟩
set_option maxHeartbeats 4000000 in
theorem map_runs {v : Value} {gs : List Sg} {st z : Int} {ab : Bool} (hr : GRow h v gs) (hl : gs.length ≤ 10000) (hx : ∀ s ∈ gs, s.rng) (hzr : rngI z) (hf : f ≤ h.size) :
    callR X ⟨f, []⟩ 6 [.agg #[.int .i64 st, .bool ab, .int .i64 z], v] h fun w h' => KeepB h h' none ∧ Buf f h' 5 1 w (bvs (mapB st ab z gs)) ∧ BRow h' w (mapB st ab z gs) := by
  refine callR_of rfl f6_is ?_
  obtain ⟨a, c, rfl⟩ := hr.form
  have hfin : Runs X ⟨h.size, []⟩ 20 [.agg #[.int .i64 st, .bool ab, .int .i64 z], .slice a gs.length c] (h.push (.cells [.int .i64 st, .bool ab, .int .i64 z] 30)) (.bool (fineM st ab z gs)) (h.push (.cells [.int .i64 st, .bool ab, .int .i64 z] 30)) := ifine_runs (hr.push _) (by omega)
  have hnil : KeepB h h none ∧ Buf f h 5 1 (.slice none 0 0) (bvs []) ∧ BRow h (.slice none 0 0) [] := ⟨.refl _ _, .inl ⟨rfl, rfl⟩, Buf.row (f := 0) (.inl ⟨rfl, rfl⟩) (by omega) rfl⟩
  cases hri : rightR st ab z with
  | false =>
    have e : mapB st ab z gs = [] := by rw [mapB, if_neg]; simp [hri]
    rw [e]
    simp only [f6r0, f6r1, f6r2, f6r3, f6r4, f6r5, f6r6, f6r7, f6r8, f6r9, f6r10, f6r11, f6r12, f6l13, f6r14, f6b]
    repeat (first
 | refine za ?_ | refine zb ?_ | refine zc ?_ | refine zd ?_ | refine ze ?_ | refine zf ?_ | refine zg ?_ | refine zh ?_ | (refine zi ?_; try refine RgD_plain rfl ?_) | refine w_drawn rfl ?_ | refine zj ?_ | refine zl ?_
 | ((first | apply zs | (apply zt; (focus rfl)) | (apply zu; (focus rfl)) | (apply zv; (focus rfl)) | apply zw | apply zx | apply zy | apply zB | apply zC | apply zD | apply zE | apply zF); (focus ((conv => lhs; simp [hri]); first | done | rfl)); first | apply zk | (apply zn; (focus rfl); try (focus (first | rfl | (simp [hri]; done)))) | (apply zo; (focus rfl)) | apply gv_u | apply gv_tt | apply gv_ff | apply gv_ft | apply gv_tf | exact cright_runs))
    exact hnil
  | true =>
    cases hfi : fineM st ab z gs with
    | false =>
      have e : mapB st ab z gs = [] := by rw [mapB, if_neg]; simp [hfi]
      rw [hfi] at hfin
      rw [e]
      simp only [f6r0, f6r1, f6r2, f6r3, f6r4, f6r5, f6r6, f6r7, f6r8, f6r9, f6r10, f6r11, f6r12, f6l13, f6r14, f6b]
      repeat (first
 | refine za ?_ | refine zb ?_ | refine zc ?_ | refine zd ?_ | refine ze ?_ | refine zf ?_ | refine zg ?_ | refine zh ?_ | (refine zi ?_; try refine RgD_plain rfl ?_) | refine w_drawn rfl ?_ | refine zj ?_ | refine zl ?_
 | ((first | apply zs | (apply zt; (focus rfl)) | (apply zu; (focus rfl)) | (apply zv; (focus rfl)) | apply zw | apply zx | apply zy | apply zB | apply zC | apply zD | apply zE | apply zF); (focus ((conv => lhs; simp [hri]); first | done | rfl)); first | apply zk | (apply zn; (focus rfl); try (focus (first | rfl | (simp [hri]; done)))) | (apply zo; (focus rfl)) | apply gv_u | apply gv_tt | apply gv_ff | apply gv_ft | apply gv_tf | exact cright_runs | exact hfin))
      exact hnil
    | true =>
      have e : mapB st ab z gs = numB (zig (bodyM st ab z gs).length) ++ bodyM st ab z gs := by rw [mapB, if_pos ⟨hri, hfi⟩]
      rw [hfi] at hfin
      rw [e]
      have hst2 := right_st hri
      obtain ⟨k, hk⟩ : ∃ k, k = st.toNat := ⟨_, rfl⟩
      have hst : IntKind.u8.wrap st = (k : Int) := by rw [wrap8', hk]; omega
      have hhl := headB_len (st := st) (ab := ab) hzr
      have hnl := num_len (n := (gs.length : Nat)) (by omega)
      have hlen : ∀ n, ((headB st ab z ++ numB (zig gs.length)) ++ (gs.take n).flatMap segB).length ≤ 23 + 32 * gs.length := by
        intro n
        have h1 := flat_len (m := 32) (g := segB) (gs.take n) (fun s hs => segB_len (hx s (List.mem_of_mem_take hs)))
        have : (gs.take n).length ≤ gs.length := by rw [List.length_take]; omega
        rw [List.length_append, List.length_append]
        have : 32 * (gs.take n).length ≤ 32 * gs.length := Nat.mul_le_mul_left _ this
        omega
      have hrest : ∀ (env : Env) (h1 : Heap) (w0 : Value), env 1 = .slice a gs.length c → env 5 = w0 → KeepB h h1 none → Buf h.size h1 5 1 w0 (bvs (headB st ab z)) → (blk w0 = none ∨ ∃ b, blk w0 = some b ∧ h.size ≤ b) →
          Ok X ⟨h.size, []⟩ (.seq (.reg f6r7) (.seq (.seq (.reg f6r8) (.block 0 (.loop f6l13))) (.seq (.reg f6r14) .ret))) env h1 (EndsR [.tmp 4] .pure h fun w h' => KeepB h h' none ∧ Buf f h' 5 1 w (bvs (numB (zig (bodyM st ab z gs).length) ++ bodyM st ab z gs)) ∧ BRow h' w (numB (zig (bodyM st ab z gs).length) ++ bodyM st ab z gs)) := by
        intro env h1 w0 e1 e5 hk1 hb1 hbl1
        simp only [f6r0, f6r1, f6r2, f6r3, f6r4, f6r5, f6r6, f6r7, f6r8, f6r9, f6r10, f6r11, f6r12, f6l13, f6r14, f6b]
        repeat (first
 | refine za ?_ | refine zb ?_ | refine zc ?_ | refine zd ?_ | refine ze ?_ | refine zf ?_ | refine zg ?_ | refine zh ?_ | (refine zi ?_; try refine RgD_plain rfl ?_) | refine w_drawn rfl ?_ | refine zj ?_ | refine zl ?_
 | ((first | apply zs | (apply zt; (focus rfl)) | (apply zu; (focus rfl)) | (apply zv; (focus rfl)) | apply zx | apply zy | apply zB | apply zC | apply zD | apply zE | apply zF); (focus ((conv => lhs; simp [e1, e5]); first | done | rfl)); first | apply zk | (apply zn; (focus rfl); try (focus (first | rfl | (simp [e1, e5]; done)))) | (apply zo; (focus rfl)) | apply gv_u | apply gv_tt | apply gv_ff | apply gv_ft | apply gv_tf))
        (apply zW; (focus ((conv => lhs; simp [e1, e5]); first | done | rfl)); (focus exact num_runs (l := bvs (headB st ab z)) hk1.1 hb1 (bvs_one _) (by simp; omega) (by omega))); intro v' h' q'
        have q' : Grow h.size 5 1 h1 h' w0 v' (bvs (headB st ab z ++ numB (zig gs.length))) := by rw [bvs_append]; exact q'
        have hk0 : KeepB h h' none := KeepB_new hk1 q'.keep hbl1
        have hbl0 : blk v' = none ∨ ∃ b, blk v' = some b ∧ h.size ≤ b := by
          rcases q'.blk with e | ⟨b, e, hb⟩
          · rw [e]; exact hbl1
          · exact .inr ⟨b, e, by have := hk1.1; omega⟩
        repeat (first
 | refine za ?_ | refine zb ?_ | refine zc ?_ | refine zd ?_ | refine ze ?_ | refine zf ?_ | refine zg ?_ | refine zh ?_ | (refine zi ?_; try refine RgD_plain rfl ?_) | refine w_drawn rfl ?_ | refine zj ?_ | refine zl ?_
 | ((first | apply zs | (apply zt; (focus rfl)) | (apply zu; (focus rfl)) | (apply zv; (focus rfl)) | apply zx | apply zy | apply zB | apply zC | apply zD | apply zE | apply zF); (focus ((conv => lhs; simp [e1, e5]); first | done | rfl)); first | apply zk | (apply zn; (focus rfl); try (focus (first | rfl | (simp [e1, e5]; done)))) | (apply zo; (focus rfl)) | apply gv_u | apply gv_tt | apply gv_ff | apply gv_ft | apply gv_tf))
        generalize hpre : headB st ab z ++ numB (zig gs.length) = pre at *
        have hbody : bodyM st ab z gs = pre ++ gs.flatMap segB := by rw [bodyM, hpre]
        refine w_loop (A := Nat × Value) (fun A env h1 => A.1 ≤ gs.length ∧ env 33 = .slice a gs.length c ∧ env 34 = .int .i64 gs.length ∧ env 35 = .int .i64 A.1 ∧ env 5 = A.2 ∧ KeepB h h1 none ∧ Buf h.size h1 5 1 A.2 (bvs (pre ++ (gs.take A.1).flatMap segB)) ∧ (blk A.2 = none ∨ ∃ b, blk A.2 = some b ∧ h.size ≤ b)) (fun A => gs.length - A.1) (a0 := (0, v'))
          ⟨by simp, by simp [e1], by simp, by simp, by simp, hk0, by simpa using q'.buf, hbl0⟩ ?_
        clear e1 e5 hk1 hb1 hbl1 hk0 hbl0 q' hfin
        rintro ⟨i, w⟩ env h1 ⟨hi, e26, e27, e28, e5, hk, hb, hbl⟩
        simp only at hi e26 e27 e28 e5 hk hb hbl
        by_cases hlt : i < gs.length
        · obtain ⟨s, hx1, hd⟩ := elem_at hlt
          obtain ⟨b, o, cs, rfl, hb1, hc, hga⟩ := (hr.keepB hk (.inl rfl)).all sgC_len (by omega)
          have hg : grab cs (o + i * 5) 5 = some [.int .i64 s.s.a, .int .i64 s.s.b, .int .i64 s.s.c, .int .i64 s.s.d, .int .i64 s.v] := hga i s hx1 hlt
          have hsr := hx s (List.mem_of_getElem? hx1)
          have n1 : ¬ b = h1.size := by omega
          have hk1 := hk.1
          have w1 := wadd (i := i) (by omega)
          have hli := hlen i
          have c1 := cut_len (c := (s.s.a, s.s.b)) hsr.1.1
          have c2 := cut_len (c := (s.s.c, s.s.d)) hsr.1.2
          have ht : pre ++ (gs.take (i + 1)).flatMap segB = pre ++ (gs.take i).flatMap segB ++ cutB (s.s.a, s.s.b) ++ cutB (s.s.c, s.s.d) ++ numB (zig s.v) := by
            rw [List.take_add_one, hx1]; simp [cutsB, segB]
          clear hga hd hx1
          repeat (first
 | refine za ?_ | refine zb ?_ | refine zc ?_ | refine zd ?_ | refine ze ?_ | refine zf ?_ | refine zg ?_ | refine zh ?_ | (refine zi ?_; try refine RgD_plain rfl ?_) | refine w_drawn rfl ?_ | refine zj ?_ | refine zl ?_
 | ((first | apply zs | (apply zt; (focus rfl)) | (apply zu; (focus rfl)) | (apply zv; (focus rfl)) | apply zx | apply zy | apply zB | apply zC | apply zD | apply zE | apply zF); (focus ((conv => lhs; simp [e26, e27, e28, e5, hlt, hc, hg, n1, hk1]); first | done | rfl)); first | apply zk | (apply zn; (focus rfl); try (focus (first | rfl | (simp [e26, e27, e28, e5, hlt, hc, hg, n1, hk1]; done)))) | (apply zo; (focus rfl)) | apply gv_u | apply gv_tt | apply gv_ff | apply gv_ft | apply gv_tf))
          (apply zW; (focus ((conv => lhs; simp [e26, e27, e28, e5]); first | done | rfl)); (focus exact cut_runs (l := pre ++ (gs.take i).flatMap segB) (by simp; omega) (hb.push _) (by omega) hsr.1.1)); intro v2 h2 q2
          have hbn : blk w ≠ some h1.size := fun q => by have := hb.lt q; omega
          have hc2 : h2.cellsAt h1.size = some [.int .i64 s.s.a, .int .i64 s.s.b, .int .i64 s.s.c, .int .i64 s.s.d, .int .i64 s.v] := by rw [q2.cells (by simp) hbn]; simp
          repeat (first
 | refine za ?_ | refine zb ?_ | refine zc ?_ | refine zd ?_ | refine ze ?_ | refine zf ?_ | refine zg ?_ | refine zh ?_ | (refine zi ?_; try refine RgD_plain rfl ?_) | refine w_drawn rfl ?_ | refine zj ?_ | refine zl ?_
 | ((first | apply zs | (apply zt; (focus rfl)) | (apply zu; (focus rfl)) | (apply zv; (focus rfl)) | apply zx | apply zy | apply zB | apply zC | apply zD | apply zE | apply zF); (focus ((conv => lhs; simp [e26, e27, e28, e5, hc2]); first | done | rfl)); first | apply zk | (apply zn; (focus rfl); try (focus (first | rfl | (simp [e26, e27, e28, e5, hc2]; done)))) | (apply zo; (focus rfl)) | apply gv_u | apply gv_tt | apply gv_ff | apply gv_ft | apply gv_tf))
          (apply zW; (focus ((conv => lhs; simp [e26, e27, e28, e5]); first | done | rfl)); (focus exact cut_runs (l := pre ++ (gs.take i).flatMap segB ++ cutB (s.s.a, s.s.b)) q2.fs q2.buf (by rw [List.length_append]; omega) hsr.1.2)); intro v3 h3 q3
          have q23 := q2.trans q3
          have hc3 : h3.cellsAt h1.size = some [.int .i64 s.s.a, .int .i64 s.s.b, .int .i64 s.s.c, .int .i64 s.s.d, .int .i64 s.v] := by rw [q23.cells (by simp) hbn]; simp
          repeat (first
 | refine za ?_ | refine zb ?_ | refine zc ?_ | refine zd ?_ | refine ze ?_ | refine zf ?_ | refine zg ?_ | refine zh ?_ | (refine zi ?_; try refine RgD_plain rfl ?_) | refine w_drawn rfl ?_ | refine zj ?_ | refine zl ?_
 | ((first | apply zs | (apply zt; (focus rfl)) | (apply zu; (focus rfl)) | (apply zv; (focus rfl)) | apply zx | apply zy | apply zB | apply zC | apply zD | apply zE | apply zF); (focus ((conv => lhs; simp [e26, e27, e28, e5, hc2, hc3]); first | done | rfl)); first | apply zk | (apply zn; (focus rfl); try (focus (first | rfl | (simp [e26, e27, e28, e5, hc2, hc3]; done)))) | (apply zo; (focus rfl)) | apply gv_u | apply gv_tt | apply gv_ff | apply gv_ft | apply gv_tf))
          (apply zW; (focus ((conv => lhs; simp [e26, e27, e28, e5]); first | done | rfl)); (focus exact num_runs (l := bvs (pre ++ (gs.take i).flatMap segB ++ cutB (s.s.a, s.s.b) ++ cutB (s.s.c, s.s.d))) q3.fs q3.buf (bvs_one _) (by rw [bvs_len, List.length_append, List.length_append]; omega) hsr.2)); intro v4 h4 q4
          have q4 : Grow h.size 5 1 h3 h4 v3 v4 (bvs (pre ++ (gs.take i).flatMap segB ++ cutB (s.s.a, s.s.b) ++ cutB (s.s.c, s.s.d) ++ numB (zig s.v))) := by rw [bvs_append]; exact q4
          rw [← ht] at q4
          have q5 := (q23.trans q4).pre
          repeat (first
 | refine za ?_ | refine zb ?_ | refine zc ?_ | refine zd ?_ | refine ze ?_ | refine zf ?_ | refine zg ?_ | refine zh ?_ | (refine zi ?_; try refine RgD_plain rfl ?_) | refine w_drawn rfl ?_ | refine zj ?_ | refine zl ?_
 | ((first | apply zs | (apply zt; (focus rfl)) | (apply zu; (focus rfl)) | (apply zv; (focus rfl)) | apply zx | apply zy | apply zB | apply zC | apply zD | apply zE | apply zF); (focus ((conv => lhs; simp [e26, e27, e28, e5, w1]); first | done | rfl)); first | apply zk | (apply zn; (focus rfl); try (focus (first | rfl | (simp [e26, e27, e28, e5, w1]; done)))) | (apply zo; (focus rfl)) | apply gv_u | apply gv_tt | apply gv_ff | apply gv_ft | apply gv_tf))
          refine ⟨(i + 1, v4), ⟨by simp only; omega, by simp [e26], by simp [e27], by simp, by simp, KeepB_new hk q5.keep hbl, q5.buf, ?_⟩, by simp only; omega⟩
          rcases q5.blk with q | ⟨b, q, hb⟩
          · rw [q]; exact hbl
          · exact .inr ⟨b, q, by omega⟩
        · have ht : gs.take i = gs := List.take_of_length_le (by omega)
          have hli := hlen i
          rw [ht, ← hbody] at hb hli
          have hpos : 0 < (bodyM st ab z gs).length := by simp [bodyM, headB]
          repeat (first
 | refine za ?_ | refine zb ?_ | refine zc ?_ | refine zd ?_ | refine ze ?_ | refine zf ?_ | refine zg ?_ | refine zh ?_ | (refine zi ?_; try refine RgD_plain rfl ?_) | refine w_drawn rfl ?_ | refine zj ?_ | refine zl ?_
 | ((first | apply zs | (apply zt; (focus rfl)) | (apply zu; (focus rfl)) | (apply zv; (focus rfl)) | apply zx | apply zy | apply zB | apply zC | apply zD | apply zE | apply zF); (focus ((conv => lhs; simp [e26, e27, e28, e5, hlt]); first | done | rfl)); first | apply zk | (apply zn; (focus rfl); try (focus (first | rfl | (simp [e26, e27, e28, e5, hlt]; done)))) | (apply zo; (focus rfl)) | apply gv_u | apply gv_tt | apply gv_ff | apply gv_ft | apply gv_tf))
          (apply zW; (focus ((conv => lhs; simp [e26, e27, e28, e5]); first | done | rfl)); (focus exact sized_runs (l := bodyM st ab z gs) hk.1 (hb.row (by omega) (by simp)) (by omega) hpos)); intro v2 h2 q2
          obtain ⟨v4, h4, f1, f2, f3, f4⟩ := finish_buf (f := f) (n := (numB (zig (bodyM st ab z gs).length) ++ bodyM st ab z gs).length) q2.buf (by omega) (by simp) hf (all_below_ints (bvs_ints _))
          repeat (first
 | refine za ?_ | refine zb ?_ | refine zc ?_ | refine zd ?_ | refine ze ?_ | refine zf ?_ | refine zg ?_ | refine zh ?_ | (refine zi ?_; try refine RgD_plain rfl ?_) | refine w_drawn rfl ?_ | refine zj ?_ | refine zl ?_
 | ((first | apply zs | (apply zt; (focus rfl)) | (apply zu; (focus rfl)) | (apply zv; (focus rfl)) | apply zx | apply zy | apply zB | apply zC | apply zD | apply zE | apply zF); (focus ((conv => lhs; simp); first | done | rfl)); first | apply zk | (apply zn; (focus rfl); try (focus (first | rfl | (simp; done)))) | (apply zo; (focus rfl)) | apply gv_u | apply gv_tt | apply gv_ff | apply gv_ft | apply gv_tf))
          exact w_endr (vs := [v2]) (by simp) f1 ⟨f2, f3, f4⟩
      simp only [f6b]
      generalize hR : (ACode.seq (.reg f6r7) (.seq (.seq (.reg f6r8) (.block 0 (.loop f6l13))) (.seq (.reg f6r14) .ret))) = REST
      simp only [f6r0, f6r1, f6r2, f6r3, f6r4, f6r5, f6r6, f6r7, f6r8, f6r9, f6r10, f6r11, f6r12, f6l13, f6r14, f6b]
      cases hab : ab with
      | false =>
        subst hab
        have hh : headB st false z = [2, k, 0] := by simp [headB, hk]
        repeat (first
 | refine za ?_ | refine zb ?_ | refine zc ?_ | refine zd ?_ | refine ze ?_ | refine zf ?_ | refine zg ?_ | refine zh ?_ | (refine zi ?_; try refine RgD_plain rfl ?_) | refine w_drawn rfl ?_ | refine zj ?_ | refine zl ?_
 | ((first | apply zs | (apply zt; (focus rfl)) | (apply zu; (focus rfl)) | (apply zv; (focus rfl)) | apply zw | apply zx | apply zy | apply zB | apply zC | apply zD | apply zE | apply zF); (focus ((conv => lhs; simp [hri, hst]); first | done | rfl)); first | apply zk | (apply zn; (focus rfl); try (focus (first | rfl | (simp [hri, hst]; done)))) | (apply zo; (focus rfl)) | apply gv_u | apply gv_tt | apply gv_ff | apply gv_ft | apply gv_tf | exact cright_runs | exact hfin))
        subst hR
        refine hrest _ _ (.slice (some ⟨h.size + 1, 0, none⟩) 3 3) ?_ ?_ (((KeepB.refl _ _).push _).push _) ?_ (.inr ⟨_, rfl, Nat.le_succ _⟩)
        · simp
        · simp
        · rw [hh]
          exact .inr ⟨_, 3, rfl, rfl, by rw [Array.getElem?_push, if_pos (by simp)]; simp [bvs, bv], Nat.le_succ _⟩
      | true =>
        subst hab
        have hh : headB st true z = [2, k, 1] ++ numB (zig z) := by simp [headB, hk]
        repeat (first
 | refine za ?_ | refine zb ?_ | refine zc ?_ | refine zd ?_ | refine ze ?_ | refine zf ?_ | refine zg ?_ | refine zh ?_ | (refine zi ?_; try refine RgD_plain rfl ?_) | refine w_drawn rfl ?_ | refine zj ?_ | refine zl ?_
 | ((first | apply zs | (apply zt; (focus rfl)) | (apply zu; (focus rfl)) | (apply zv; (focus rfl)) | apply zw | apply zx | apply zy | apply zB | apply zC | apply zD | apply zE | apply zF); (focus ((conv => lhs; simp [hri, hst, wr_push]); first | done | rfl)); first | apply zk | (apply zn; (focus rfl); try (focus (first | rfl | (simp [hri, hst, wr_push]; done)))) | (apply zo; (focus rfl)) | apply gv_u | apply gv_tt | apply gv_ff | apply gv_ft | apply gv_tf | exact cright_runs | exact hfin))
        have hb3 : Buf h.size ((h.push (.cells [.int .i64 st, .bool true, .int .i64 z] 30)).push (.cells [.int .u8 2, .int .u8 k, .int .u8 1] 5)) 5 1 (.slice (some ⟨h.size + 1, 0, none⟩) 3 3) (bvs [2, k, 1]) := .inr ⟨_, 3, rfl, rfl, by rw [Array.getElem?_push, if_pos (by simp)]; simp [bvs, bv], Nat.le_succ _⟩
        (apply zW; (focus ((conv => lhs; simp); first | done | rfl)); (focus exact num_runs (l := bvs [2, k, 1]) (by simp; omega) hb3 (bvs_one _) (by simp) hzr)); intro v2 h2 q2
        repeat (first
 | refine za ?_ | refine zb ?_ | refine zc ?_ | refine zd ?_ | refine ze ?_ | refine zf ?_ | refine zg ?_ | refine zh ?_ | (refine zi ?_; try refine RgD_plain rfl ?_) | refine w_drawn rfl ?_ | refine zj ?_ | refine zl ?_
 | ((first | apply zs | (apply zt; (focus rfl)) | (apply zu; (focus rfl)) | (apply zv; (focus rfl)) | apply zx | apply zy | apply zB | apply zC | apply zD | apply zE | apply zF); (focus ((conv => lhs; simp); first | done | rfl)); first | apply zk | (apply zn; (focus rfl); try (focus (first | rfl | (simp; done)))) | (apply zo; (focus rfl)) | apply gv_u | apply gv_tt | apply gv_ff | apply gv_ft | apply gv_tf))
        subst hR
        refine hrest _ h2 v2 ?_ ?_ (KeepB_new (((KeepB.refl _ _).push _).push _) q2.keep (.inr ⟨_, rfl, Nat.le_succ _⟩)) ?_ ?_
        · simp
        · simp
        · rw [hh, bvs_append]; exact q2.buf
        · rcases q2.blk with e | ⟨b, e, hb⟩
          · exact .inr ⟨h.size + 1, by rw [e]; rfl, by omega⟩
          · simp at hb; exact .inr ⟨b, e, by omega⟩
end Go.Proofs.YtmjaanhphkbkeaaGreat
end
