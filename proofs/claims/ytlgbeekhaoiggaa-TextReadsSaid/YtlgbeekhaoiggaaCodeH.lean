import Derived.Test.YtlgbeekhaoiggaaCodeG
set_option linter.all false
section
namespace Go.Proofs.Ytlgbeekhaoiggaa
open Go.AM
set_option maxHeartbeats 4000000
variable {f : Nat} {h : Heap}
def begA (first lo : Bool) (l : List UInt8) (i : Nat) : Nat := if first then i else sk lo l (i + 1)
def nxtA (nums first lo : Bool) (l : List UInt8) (i : Nat) : Nat := sk lo l (oneN nums lo l (begA first lo l i)).2.1
def rowE (nums lo : Bool) (l : List UInt8) (first : Bool) (i : Nat) : List (Sg × Nat) × Nat × Int :=
  if _h : i < l.length then
    if first = false ∧ isAt l i [59] = false then ([], i, 180) else
    if _hr : (oneN nums lo l (begA first lo l i)).2.2 ≠ 0 ∨ ¬ i < nxtA nums first lo l i then ([], (oneN nums lo l (begA first lo l i)).2.1, (oneN nums lo l (begA first lo l i)).2.2) else
    (((oneN nums lo l (begA first lo l i)).1, begA first lo l i) :: (rowE nums lo l false (nxtA nums first lo l i)).1, (rowE nums lo l false (nxtA nums first lo l i)).2)
  else ([], i, 0)
termination_by l.length - i
decreasing_by all_goals (simp only [ne_eq, not_or, Classical.not_not] at _hr; omega)
theorem skip_ge (l : List UInt8) (i : Nat) : i ≤ skip l i := by unfold skip; omega
theorem sk_ge (lo : Bool) (l : List UInt8) (i : Nat) : i ≤ sk lo l i := by unfold sk; split; exact skip_ge l i; omega
theorem oneN_ok (nums lo : Bool) {l : List UInt8} {i : Nat} (hi : i ≤ l.length) : (oneN nums lo l i).2.1 ≤ l.length ∧ ((oneN nums lo l i).2.2 = 0 → i < (oneN nums lo l i).2.1) := by
  obtain ⟨h1, h2, h3⟩ := readN_ok lo (l.drop i)
  rw [List.length_drop] at h1
  unfold oneN
  by_cases hA : (readN lo (l.drop i)).2.2 ≠ 0 ∨ nums = false
  · rw [if_pos hA]; exact ⟨by simp only; omega, fun q => by have := h3 q; simp only; omega⟩
  · rw [if_neg hA]
    have he : (readN lo (l.drop i)).2.2 = 0 := Classical.byContradiction fun q => hA (.inl q)
    have h4 := h3 he
    have hj : i + (readN lo (l.drop i)).2.1 ≤ l.length := by omega
    have g1 := sk_ge lo l (i + (readN lo (l.drop i)).2.1)
    have hj2 := sk_le (lo := lo) hj
    have hij : i ≤ i + (readN lo (l.drop i)).2.1 := Nat.le_add_right _ _
    generalize i + (readN lo (l.drop i)).2.1 = j at *
    generalize sk lo l j = j2 at *
    by_cases hB : isAt l j2 [61, 62] = false
    · rw [if_pos hB]; exact ⟨hj2, fun q => by simp at q⟩
    · rw [if_neg hB]
      have hj3 := isAt_len (by simpa using hB) (by simp)
      simp at hj3
      have hj4 := sk_le (lo := lo) (l := l) (i := j2 + 2) (by omega)
      have g2 := sk_ge lo l (j2 + 2)
      generalize sk lo l (j2 + 2) = j4 at *
      have hs := sat_len (l := l.drop j4)
      rw [List.length_drop] at hs
      by_cases hz : (satRead (l.drop j4)).2 = 0
      · rw [if_pos hz]; exact ⟨hj4, fun q => by simp at q⟩
      · rw [if_neg hz]; exact ⟨by simp only; omega, fun _ => by simp only; omega⟩
theorem begA_ok (first lo : Bool) {l : List UInt8} {i : Nat} (hi : i < l.length) : begA first lo l i ≤ l.length ∧ i ≤ begA first lo l i := by
  unfold begA; split
  · exact ⟨by omega, Nat.le_refl _⟩
  · have := sk_ge lo l (i + 1); exact ⟨sk_le (by omega), by omega⟩
theorem rowE_end {nums lo first : Bool} {l : List UInt8} {i : Nat} (hi : ¬ i < l.length) : rowE nums lo l first i = ([], i, 0) := by rw [rowE, dif_neg hi]
theorem rowE_semi {nums lo : Bool} {l : List UInt8} {i : Nat} (hi : i < l.length) (hs : isAt l i [59] = false) : rowE nums lo l false i = ([], i, 180) := by rw [rowE, dif_pos hi, if_pos ⟨rfl, hs⟩]
theorem rowE_bad {nums lo first : Bool} {l : List UInt8} {i : Nat} (hi : i < l.length) (hs : first = true ∨ isAt l i [59] = true) (he : (oneN nums lo l (begA first lo l i)).2.2 ≠ 0) :
    rowE nums lo l first i = ([], (oneN nums lo l (begA first lo l i)).2.1, (oneN nums lo l (begA first lo l i)).2.2) := by
  rw [rowE, dif_pos hi, if_neg (by rintro ⟨q1, q2⟩; rcases hs with q | q; rw [q] at q1; cases q1; rw [q] at q2; cases q2), dif_pos (.inl he)]
theorem rowE_go {nums lo first : Bool} {l : List UInt8} {i : Nat} (hi : i < l.length) (hs : first = true ∨ isAt l i [59] = true) (he : (oneN nums lo l (begA first lo l i)).2.2 = 0) :
    i < nxtA nums first lo l i ∧ nxtA nums first lo l i ≤ l.length ∧ rowE nums lo l first i = (((oneN nums lo l (begA first lo l i)).1, begA first lo l i) :: (rowE nums lo l false (nxtA nums first lo l i)).1, (rowE nums lo l false (nxtA nums first lo l i)).2) := by
  obtain ⟨b1, b2⟩ := begA_ok first lo hi
  obtain ⟨o1, o2⟩ := oneN_ok nums lo b1
  have g := sk_ge lo l (oneN nums lo l (begA first lo l i)).2.1
  have hlt : i < nxtA nums first lo l i := by unfold nxtA; have := o2 he; omega
  refine ⟨hlt, sk_le o1, ?_⟩
  rw [rowE, dif_pos hi, if_neg (by rintro ⟨q1, q2⟩; rcases hs with q | q; rw [q] at q1; cases q1; rw [q] at q2; cases q2), dif_neg (by rintro (q | q); exact q he; exact q hlt)]
def fb : Option Sg → List (Sg × Nat) → Option Nat
  | _, [] => none
  | none, x :: r => fb (some x.1) r
  | some p, x :: r => if lessC (x.1.s.a, x.1.s.b) (p.s.c, p.s.d) = true then some x.2 else fb (some x.1) r
def lastO (p : Option Sg) (l : List (Sg × Nat)) : Option Sg := match l.getLast? with | some x => some x.1 | none => p
theorem fb_app : ∀ (l : List (Sg × Nat)) (p : Option Sg) (x : Sg × Nat), fb p (l ++ [x]) = match fb p l with
    | some b => some b
    | none => match lastO p l with
      | some q => if lessC (x.1.s.a, x.1.s.b) (q.s.c, q.s.d) = true then some x.2 else none
      | none => none
  | [], none, x => rfl
  | [], some p, x => by simp [fb, lastO]
  | y :: l, none, x => by
    have := fb_app l (some y.1) x
    simp only [List.cons_append, fb, this, lastO, List.getLast?_cons]
    cases l.getLast? <;> simp
  | y :: l, some p, x => by
    have := fb_app l (some y.1) x
    simp only [List.cons_append, fb]
    split
    · rfl
    · rw [this]; simp only [lastO, List.getLast?_cons]; cases l.getLast? <;> simp
def rowR (nums lo : Bool) (l : List UInt8) : List Sg × Nat × Int :=
  if l.length > 65536 then ([], 0, 180) else
  if (rowE nums lo l true (sk lo l 0)).2.2 ≠ 0 then ([], (rowE nums lo l true (sk lo l 0)).2) else
  match (if lo then none else fb none (rowE nums lo l true (sk lo l 0)).1) with
  | some b => ([], b, 180)
  | none => ((rowE nums lo l true (sk lo l 0)).1.map (·.1), l.length, 0)
def badI (o : Option Nat) : Int := match o with | some b => (b : Int) | none => -1
end Go.Proofs.Ytlgbeekhaoiggaa
end

section
namespace Go.Proofs.Ytlgbeekhaoiggaa
open Go.AM
set_option maxHeartbeats 4000000
variable {f : Nat} {h : Heap}
abbrev triR (w : Value) (p : Nat) (e : Int) : Value := .tuple #[w, .int .i64 p, .int .i64 e]
theorem GRow.last {w : Value} {xs : List Sg} (r : GRow h w xs) {p : Sg} (hp : xs.getLast? = some p) : ∃ b o c cs, w = .slice (some ⟨b, o, none⟩) xs.length c ∧ b < h.size ∧ h.cellsAt b = some cs ∧ grab cs (o + (xs.length - 1) * 5 + 2) 2 = some [.int .i64 p.s.c, .int .i64 p.s.d] := by
  obtain ⟨a, c, rfl⟩ := r.form
  have h0 : 0 < xs.length := by cases xs with | nil => simp at hp | cons x l => simp
  obtain ⟨b, o, cs, rfl, hb, hc, hga⟩ := r.all sgC_len h0
  refine ⟨b, o, c, cs, rfl, hb, hc, ?_⟩
  have hx : xs[xs.length - 1]? = some p := by rw [← List.getLast?_eq_getElem?]; exact hp
  exact grab_sub (hga _ p hx (by omega)) (p := 2) (m := 2) (by omega)
theorem isAt_59 {l : List UInt8} {i : Nat} {b : UInt8} (hi : i < l.length) (hb : l[i] = b) : isAt l i [59] = decide (b.toNat = 59) := by
  rw [Bool.eq_iff_iff, isAt_1, decide_eq_true_eq, List.getElem?_eq_getElem hi, hb]
  constructor
  · intro q; have := Option.some.inj q; rw [this]; rfl
  · intro q; congr 1; exact UInt8.toNat_inj.1 (by rw [q]; rfl)
theorem read18_runs {l : List UInt8} {nums lo : Bool} (hl : l.length ≤ 900000) (hf : f ≤ h.size) : callR X ⟨f, []⟩ 14 [sv l, .bool nums, .bool lo] h fun v h' => ∃ w, v = triR w (rowR nums lo l).2.1 (rowR nums lo l).2.2 ∧ KeepB h h' none ∧ GRow h' w (rowR nums lo l).1 := by
  refine callR_of rfl f14_is ?_
  simp only [f14b, f14r0, f14r1, f14r2, f14r3, f14r4, f14r5, f14r19, f14r20, f14r21]
  have hnil : ∀ h' : Heap, GRow h' (.slice none 0 0) [] := fun _ => ⟨.inl ⟨rfl, rfl, rfl⟩⟩
  by_cases hbig : l.length > 65536
  · have e : rowR nums lo l = ([], 0, 180) := by unfold rowR; rw [if_pos hbig]
    rw [e]
    repeat' (first
 | refine za ?_ | refine zb ?_ | refine zc ?_ | refine zd ?_ | refine ze ?_ | refine zf ?_ | refine zg ?_ | refine zh ?_ | (refine zi ?_; try refine RgD_plain rfl ?_) | refine w_drawn rfl ?_ | refine zj ?_ | refine zl ?_
 | ((first | apply zs | (apply zt; (focus rfl)) | (apply zu; (focus rfl)) | (apply zv; (focus rfl)) | apply zx | apply zy | apply zB | apply zC | apply zD | apply zE | apply zF); (focus ((conv => lhs; simp (disch := omega) [-env0_get, bound, List.getElem?_cons_zero, List.getElem?_cons_succ, odt, odf, oip, oin, obt, obf, ont, onf, wrapI, owu, ow8, ow32, otd, oe0, oe1, oe2, oe3, oe4, oe5, oe6, otn, ot1, ot2, ot4]); first | done | rfl)); first | apply zk | (apply zn; (focus rfl); try (focus (first | rfl | (simp; done)))) | (apply zo; (focus rfl)) | apply gv_u | apply gv_tt | apply gv_ff | apply gv_ft | apply gv_tf | (apply gv_split <;> intro hc <;> try simp only [decide_eq_true_eq, decide_eq_false_iff_not, beq_iff_eq, beq_eq_false_iff_ne, bne_iff_ne, bne_eq_false_iff_eq, Bool.not_true, Bool.not_false, ne_eq] at hc))
 | (simp (disch := omega) only [thenQ_normal, thenQ_exit, thenQ_ret, blockQ_normal, blockQ_ret, blockQ_exit_same, blockQ_exit_ne]))
    exact ⟨_, rfl, .refl _ _, hnil _⟩
  have hi0 := sk_le (lo := lo) (l := l) (i := 0) (by omega)
  obtain ⟨i0, hs0⟩ : ∃ i0, sk lo l 0 = i0 := ⟨_, rfl⟩
  rw [hs0] at hi0
  have eR : rowR nums lo l = if (rowE nums lo l true i0).2.2 ≠ 0 then ([], (rowE nums lo l true i0).2) else
      match (if lo then none else fb none (rowE nums lo l true i0).1) with
      | some b => ([], b, 180)
      | none => ((rowE nums lo l true i0).1.map (·.1), l.length, 0) := by unfold rowR; rw [if_neg hbig, hs0]; first | done | rfl
  generalize rowR nums lo l = R at eR ⊢
  repeat' (first
 | refine za ?_ | refine zb ?_ | refine zc ?_ | refine zd ?_ | refine ze ?_ | refine zf ?_ | refine zg ?_ | refine zh ?_ | (refine zi ?_; try refine RgD_plain rfl ?_) | refine w_drawn rfl ?_ | refine zj ?_ | refine zl ?_
 | ((first | apply zs | (apply zt; (focus rfl)) | (apply zu; (focus rfl)) | (apply zv; (focus rfl)) | apply zw | apply zx | apply zy | apply zB | apply zC | apply zD | apply zE | apply zF); (focus ((conv => lhs; simp (disch := omega) [-env0_get, bound, List.getElem?_cons_zero, List.getElem?_cons_succ, odt, odf, oip, oin, obt, obf, ont, onf, wrapI, owu, ow8, ow32, otd, oe0, oe1, oe2, oe3, oe4, oe5, oe6, otn, ot1, ot2, ot4, hs0]); first | done | rfl)); first | apply zk | (apply zn; (focus rfl); try (focus (first | rfl | (simp [hs0]; done)))) | (apply zo; (focus rfl)) | apply gv_u | apply gv_tt | apply gv_ff | apply gv_ft | apply gv_tf | (apply gv_split <;> intro hc <;> try simp only [decide_eq_true_eq, decide_eq_false_iff_not, beq_iff_eq, beq_eq_false_iff_ne, bne_iff_ne, bne_eq_false_iff_eq, Bool.not_true, Bool.not_false, ne_eq] at hc) | exact (blanks18_runs (i := 0) hl (by omega)))
 | (simp (disch := omega) only [thenQ_normal, thenQ_exit, thenQ_ret, blockQ_normal, blockQ_ret, blockQ_exit_same, blockQ_exit_ne]))
  refine w_loop (A := List (Sg × Nat) × Nat × Value) (fun a env h' => env 0 = sv l ∧ env 1 = .bool nums ∧ env 2 = .bool lo ∧ env 9 = a.2.2 ∧ env 10 = .int .i64 (badI (if lo then none else fb none a.1)) ∧ env 11 = .int .i64 (a.2.1 : Nat) ∧ a.2.1 ≤ l.length ∧ a.1.length ≤ a.2.1 ∧ Grow h.size 57 5 h h' (.slice none 0 0) a.2.2 (elems sgC (a.1.map (·.1))) ∧
    (rowE nums lo l true i0).1 = a.1 ++ (rowE nums lo l a.1.isEmpty a.2.1).1 ∧ (rowE nums lo l true i0).2 = (rowE nums lo l a.1.isEmpty a.2.1).2) (fun a => l.length - a.2.1) (a0 := ([], i0, .slice none 0 0))
    ⟨by simp, by simp, by simp, by simp, by cases lo <;> simp [badI, fb], by simp, hi0, by simp, .refl (.inl ⟨rfl, by simp⟩) (Nat.le_refl _) rfl, rfl, rfl⟩ ?_
  rintro ⟨acc, i, w⟩ env h' ⟨e0, e1, e2, e9, e10, e11, hi, hai, hg, r1, r2⟩
  simp only at e9 e10 e11 hi hai hg r1 r2
  simp only [f14l18, f14r6, f14r7, f14r8, f14r9, f14r10, f14r11, f14r12, f14r13, f14r14, f14r15]
  generalize hC : (ACode.seq (ACode.reg f14r16) (ACode.reg f14r17)) = C1
  have hrow : GRow h' w (acc.map (·.1)) := hg.buf.row (by omega) (by rw [elems_len sgC_len])
  have hsz := hg.keep.1
  by_cases hlt : i < l.length
  · obtain ⟨b, hb⟩ : ∃ b, l[i] = b := ⟨_, rfl⟩
    have h59 := isAt_59 hlt hb
    obtain ⟨fi, hfi⟩ : ∃ fi, acc.isEmpty = fi := ⟨_, rfl⟩
    rw [hfi] at r1 r2
    have hfl : (fi = true → acc.length = 0) ∧ (fi = false → 0 < acc.length) := by
      rw [← hfi]; cases acc <;> simp
    obtain ⟨aa, ca, rfl⟩ := hrow.form
    have hml : (acc.map (·.1)).length = acc.length := List.length_map _
    rw [hml] at e9
    by_cases hsemi : fi = false ∧ ¬ b.toNat = 59
    · obtain ⟨rfl, h59'⟩ := hsemi
      have hpos := hfl.2 rfl
      rw [rowE_semi hlt (by rw [h59]; simpa using h59')] at r2
      rw [r2] at eR
      rw [show R = ([], i, 180) by rw [eR]; simp]
      repeat' (first
 | refine za ?_ | refine zb ?_ | refine zc ?_ | refine zd ?_ | refine ze ?_ | refine zf ?_ | refine zg ?_ | refine zh ?_ | (refine zi ?_; try refine RgD_plain rfl ?_) | refine w_drawn rfl ?_ | refine zj ?_ | refine zl ?_
 | ((first | apply zs | (apply zt; (focus rfl)) | (apply zu; (focus rfl)) | (apply zv; (focus rfl)) | apply zx | apply zy | apply zB | apply zC | apply zD | apply zE | apply zF); (focus ((conv => lhs; simp (disch := omega) [-env0_get, bound, List.getElem?_cons_zero, List.getElem?_cons_succ, odt, odf, oip, oin, obt, obf, ont, onf, wrapI, owu, ow8, ow32, otd, oe0, oe1, oe2, oe3, oe4, oe5, oe6, otn, ot1, ot2, ot4, e0, e1, e2, e9, e11, hb]); first | done | rfl)); first | apply zk | (apply zn; (focus rfl); try (focus (first | rfl | (simp [e0, e1, e2, e9, e11, hb]; done)))) | (apply zo; (focus rfl)) | apply gv_u | apply gv_tt | apply gv_ff | apply gv_ft | apply gv_tf | (apply gv_split <;> intro hc <;> try simp only [decide_eq_true_eq, decide_eq_false_iff_not, beq_iff_eq, beq_eq_false_iff_ne, bne_iff_ne, bne_eq_false_iff_eq, Bool.not_true, Bool.not_false, ne_eq] at hc))
 | (simp (disch := omega) only [thenQ_normal, thenQ_exit, thenQ_ret, blockQ_normal, blockQ_ret, blockQ_exit_same, blockQ_exit_ne]))
      exact ⟨_, rfl, .refl _ _, hnil _⟩
    have hs : fi = true ∨ isAt l i [59] = true := by
      cases fi with
      | true => exact .inl rfl
      | false => right; rw [h59]; simp only [decide_eq_true_eq]; exact Classical.byContradiction fun q => hsemi ⟨rfl, q⟩
    obtain ⟨a, ha⟩ : ∃ a, begA fi lo l i = a := ⟨_, rfl⟩
    have hale := (begA_ok fi lo hlt).1
    rw [ha] at hale
    by_cases he : (oneN nums lo l a).2.2 = 0
    · obtain ⟨g1, g2, g3⟩ := rowE_go (nums := nums) hlt hs (by rw [ha]; exact he)
      rw [g3] at r1 r2
      have hnx : nxtA nums fi lo l i = sk lo l (oneN nums lo l a).2.1 := by unfold nxtA; rw [ha]
      rw [hnx] at g1 g2 r1 r2
      rw [ha] at r1
      have ho := (oneN_ok nums lo hale).1
      obtain ⟨nx, hnx2⟩ : ∃ nx, sk lo l (oneN nums lo l a).2.1 = nx := ⟨_, rfl⟩
      rw [hnx2] at g1 g2 r1 r2
      rcases hone : oneN nums lo l a with ⟨x, pl, er⟩
      have o1 : (oneN nums lo l a).1 = x := by rw [hone]
      have o2 : (oneN nums lo l a).2.1 = pl := by rw [hone]
      have o3 : (oneN nums lo l a).2.2 = er := by rw [hone]
      rw [o3] at he
      rw [o2] at ho hnx2
      rw [o1] at r1
      subst he
      -- what is amiss in its order
      have hbad : (if lo then none else fb none (acc ++ [(x, a)])) = match (if lo then none else fb none acc) with
          | some b => some b
          | none => if lo = false ∧ ∃ q, acc.getLast? = some q ∧ lessC (x.s.a, x.s.b) (q.1.s.c, q.1.s.d) = true then some a else none := by
        cases lo with
        | true => simp
        | false =>
          simp only [Bool.false_eq_true, if_false, fb_app, lastO]
          cases fb none acc with
          | some b => rfl
          | none =>
            cases hq : acc.getLast? with
            | none => simp
            | some q => simp
      have hlast : ∀ q, acc.getLast? = some q → ∃ b o cs, aa = some ⟨b, o, none⟩ ∧ b < h'.size ∧ h'.cellsAt b = some cs ∧ grab cs (o + (acc.length - 1) * 5 + 2) 2 = some [.int .i64 q.1.s.c, .int .i64 q.1.s.d] := fun q hq => by
        obtain ⟨b, o, c, cs, e, h1, h2, h3⟩ := hrow.last (p := q.1) (by rw [List.getLast?_map, hq]; rfl)
        cases e
        rw [hml] at h3
        exact ⟨b, o, cs, rfl, h1, h2, h3⟩
      obtain ⟨nb, hnb⟩ : ∃ nb, badI (if lo then none else fb none (acc ++ [(x, a)])) = nb := ⟨_, rfl⟩
      have finish : ∀ (env2 : Env), env2 0 = sv l → env2 1 = .bool nums → env2 2 = .bool lo → env2 9 = .slice aa acc.length ca → env2 10 = .int .i64 nb → env2 12 = ptr h'.size → env2 13 = .int .i64 (pl : Nat) →
          Rg X ⟨h.size, []⟩ [⟨some 77, .mov (.t 9), none⟩, ⟨some 78, .loadN 5 (.t 12), none⟩, ⟨some 79, .buildSlice 57 1 [.int .i64 0, .int .i64 0, .int .i64 0, .int .i64 0, .int .i64 0] [(0, 5, .t 78)], none⟩, ⟨some 80, .append 57 5 40 (.t 77) (.t 79), none⟩, ⟨some 9, .mov (.t 80), none⟩] env2 (h'.push (.cells (sgC x) 57))
            (fun e h2 => e 0 = sv l ∧ e 1 = .bool nums ∧ e 2 = .bool lo ∧ e 10 = .int .i64 nb ∧ e 13 = .int .i64 (pl : Nat) ∧ ∃ w2, e 9 = w2 ∧ Grow h.size 57 5 h h2 (.slice none 0 0) w2 (elems sgC ((acc ++ [(x, a)]).map (·.1)))) := by
        intro env2 d0 d1 d2 d9 d10 d12 d13
        repeat' (first
 | refine za ?_ | refine zb ?_ | refine zc ?_ | refine zd ?_ | refine ze ?_ | refine zf ?_ | refine zg ?_ | refine zh ?_ | (refine zi ?_; try refine RgD_plain rfl ?_) | refine w_drawn rfl ?_ | refine zj ?_ | refine zl ?_
 | ((first | apply zs | (apply zt; (focus rfl)) | (apply zu; (focus rfl)) | (apply zv; (focus rfl)) | apply zx | apply zy | apply zB | apply zC | apply zD | apply zE | apply zF); (focus ((conv => lhs; simp (disch := omega) [-env0_get, bound, List.getElem?_cons_zero, List.getElem?_cons_succ, odt, odf, oip, oin, obt, obf, ont, onf, wrapI, owu, ow8, ow32, otd, oe0, oe1, oe2, oe3, oe4, oe5, oe6, otn, ot1, ot2, ot4, d0, d1, d2, d9, d10, d12, d13, sgC]); first | done | rfl)); first | apply zk | (apply zn; (focus rfl); try (focus (first | rfl | (simp [d0, d1, d2, d9, d10, d12, d13, sgC]; done)))) | (apply zo; (focus rfl)) | apply gv_u | apply gv_tt | apply gv_ff | apply gv_ft | apply gv_tf | (apply gv_split <;> intro hc <;> try simp only [decide_eq_true_eq, decide_eq_false_iff_not, beq_iff_eq, beq_eq_false_iff_ne, bne_iff_ne, bne_eq_false_iff_eq, Bool.not_true, Bool.not_false, ne_eq] at hc))
 | (simp (disch := omega) only [thenQ_normal, thenQ_exit, thenQ_ret, blockQ_normal, blockQ_ret, blockQ_exit_same, blockQ_exit_ne]))
        obtain ⟨v2, h2, q1, q2⟩ := ((hg.push (.cells (sgC x) 57)).push (.cells (sgC x) 57)).append (by_ := 40) (n := acc.length) (m := 1) (x := .slice (some ⟨h'.size + 1, 0, none⟩) 1 1) (l2 := sgC x)
          (by omega) (by simp [srcCells, sgC]) (by omega) (by rw [elems_len sgC_len]; simp) rfl (by omega) (by omega) rfl
        refine w_mem (v := v2) (h' := h2) rfl (by simpa [d9, sgC] using q1) ?_
        repeat' (first
 | refine za ?_ | refine zb ?_ | refine zc ?_ | refine zd ?_ | refine ze ?_ | refine zf ?_ | refine zg ?_ | refine zh ?_ | (refine zi ?_; try refine RgD_plain rfl ?_) | refine w_drawn rfl ?_ | refine zj ?_ | refine zl ?_
 | ((first | apply zs | (apply zt; (focus rfl)) | (apply zu; (focus rfl)) | (apply zv; (focus rfl)) | apply zx | apply zy | apply zB | apply zC | apply zD | apply zE | apply zF); (focus ((conv => lhs; simp (disch := omega) [-env0_get, bound, List.getElem?_cons_zero, List.getElem?_cons_succ, odt, odf, oip, oin, obt, obf, ont, onf, wrapI, owu, ow8, ow32, otd, oe0, oe1, oe2, oe3, oe4, oe5, oe6, otn, ot1, ot2, ot4, d0, d1, d2, d9, d10, d12, d13]); first | done | rfl)); first | apply zk | (apply zn; (focus rfl); try (focus (first | rfl | (simp [d0, d1, d2, d9, d10, d12, d13]; done)))) | (apply zo; (focus rfl)) | apply gv_u | apply gv_tt | apply gv_ff | apply gv_ft | apply gv_tf | (apply gv_split <;> intro hc <;> try simp only [decide_eq_true_eq, decide_eq_false_iff_not, beq_iff_eq, beq_eq_false_iff_ne, bne_iff_ne, bne_eq_false_iff_eq, Bool.not_true, Bool.not_false, ne_eq] at hc))
 | (simp (disch := omega) only [thenQ_normal, thenQ_exit, thenQ_ret, blockQ_normal, blockQ_ret, blockQ_exit_same, blockQ_exit_ne]))
        exact ⟨by simp [d0], by simp [d1], by simp [d2], by simp [d10], by simp [d13], v2, rfl, by rw [List.map_append, elems_append]; simpa using q2⟩
      have tail : ∀ (env2 : Env), env2 0 = sv l → env2 1 = .bool nums → env2 2 = .bool lo → env2 9 = .slice aa acc.length ca → env2 10 = .int .i64 nb → env2 12 = ptr h'.size → env2 13 = .int .i64 (pl : Nat) →
          Ok X ⟨h.size, []⟩ (.seq (.reg f14r16) (.reg f14r17)) env2 (h'.push (.cells (sgC x) 57)) (fun ex e h2 => ex = .normal ∧ e 0 = sv l ∧ e 1 = .bool nums ∧ e 2 = .bool lo ∧ e 10 = .int .i64 nb ∧ e 11 = .int .i64 (nx : Nat) ∧ ∃ w2, e 9 = w2 ∧ Grow h.size 57 5 h h2 (.slice none 0 0) w2 (elems sgC ((acc ++ [(x, a)]).map (·.1)))) := by
        intro env2 d0 d1 d2 d9 d10 d12 d13
        refine za (zb ?_)
        obtain ⟨n, e', h2, q1, c0, c1, c2, c10, c13, w2, c9, q2⟩ := finish env2 d0 d1 d2 d9 d10 d12 d13
        refine ⟨n, e', h2, q1, ?_⟩
        simp only [f14r17]
        repeat' (first
 | refine za ?_ | refine zb ?_ | refine zc ?_ | refine zd ?_ | refine ze ?_ | refine zf ?_ | refine zg ?_ | refine zh ?_ | (refine zi ?_; try refine RgD_plain rfl ?_) | refine w_drawn rfl ?_ | refine zj ?_ | refine zl ?_
 | ((first | apply zs | (apply zt; (focus rfl)) | (apply zu; (focus rfl)) | (apply zv; (focus rfl)) | apply zw | apply zx | apply zy | apply zB | apply zC | apply zD | apply zE | apply zF); (focus ((conv => lhs; simp (disch := omega) [-env0_get, bound, List.getElem?_cons_zero, List.getElem?_cons_succ, odt, odf, oip, oin, obt, obf, ont, onf, wrapI, owu, ow8, ow32, otd, oe0, oe1, oe2, oe3, oe4, oe5, oe6, otn, ot1, ot2, ot4, c0, c1, c2, c9, c10, c13, hnx2]); first | done | rfl)); first | apply zk | (apply zn; (focus rfl); try (focus (first | rfl | (simp [c0, c1, c2, c9, c10, c13, hnx2]; done)))) | (apply zo; (focus rfl)) | apply gv_u | apply gv_tt | apply gv_ff | apply gv_ft | apply gv_tf | (apply gv_split <;> intro hc <;> try simp only [decide_eq_true_eq, decide_eq_false_iff_not, beq_iff_eq, beq_eq_false_iff_ne, bne_iff_ne, bne_eq_false_iff_eq, Bool.not_true, Bool.not_false, ne_eq] at hc) | exact (blanks18_runs hl ho))
 | (simp (disch := omega) only [thenQ_normal, thenQ_exit, thenQ_ret, blockQ_normal, blockQ_ret, blockQ_exit_same, blockQ_exit_ne]))
        exact ⟨trivial, by simp [c0], by simp [c1], by simp [c2], by simp [c10], by simp, w2, by simp [c9], q2⟩
      rw [hC] at tail
      have fin : ∀ (env2 : Env) (Q : AExit → Env → Heap → Prop), env2 0 = sv l → env2 1 = .bool nums → env2 2 = .bool lo → env2 9 = .slice aa acc.length ca → env2 10 = .int .i64 nb → env2 12 = ptr h'.size → env2 13 = .int .i64 (pl : Nat) →
          (∀ (e : Env) (h2 : Heap) (w2 : Value), e 0 = sv l → e 1 = .bool nums → e 2 = .bool lo → e 9 = w2 → e 10 = .int .i64 nb → e 11 = .int .i64 (nx : Nat) → Grow h.size 57 5 h h2 (.slice none 0 0) w2 (elems sgC ((acc ++ [(x, a)]).map (·.1))) → Q .normal e h2) → Ok X ⟨h.size, []⟩ C1 env2 (h'.push (.cells (sgC x) 57)) Q := by
        intro env2 Q d0 d1 d2 d9 d10 d12 d13 K
        refine (tail env2 d0 d1 d2 d9 d10 d12 d13).mono fun ex e h2 hq => ?_
        obtain ⟨rfl, c0, c1, c2, c10, c11, w2, c9, q2⟩ := hq
        exact K e h2 w2 c0 c1 c2 c9 c10 c11 q2
      have step : ∀ (e : Env) (h2 : Heap) (w2 : Value), e 0 = sv l → e 1 = .bool nums → e 2 = .bool lo → e 9 = w2 → e 10 = .int .i64 nb → e 11 = .int .i64 (nx : Nat) → Grow h.size 57 5 h h2 (.slice none 0 0) w2 (elems sgC ((acc ++ [(x, a)]).map (·.1))) →
          ∃ a' : List (Sg × Nat) × Nat × Value, (e 0 = sv l ∧ e 1 = .bool nums ∧ e 2 = .bool lo ∧ e 9 = a'.2.2 ∧ e 10 = .int .i64 (badI (if lo then none else fb none a'.1)) ∧ e 11 = .int .i64 (a'.2.1 : Nat) ∧ a'.2.1 ≤ l.length ∧ a'.1.length ≤ a'.2.1 ∧ Grow h.size 57 5 h h2 (.slice none 0 0) a'.2.2 (elems sgC (a'.1.map (·.1))) ∧
            (rowE nums lo l true i0).1 = a'.1 ++ (rowE nums lo l a'.1.isEmpty a'.2.1).1 ∧ (rowE nums lo l true i0).2 = (rowE nums lo l a'.1.isEmpty a'.2.1).2) ∧ l.length - a'.2.1 < l.length - i := by
        intro e h2 w2 c0 c1 c2 c9 c10 c11 q2
        have hem : (acc ++ [(x, a)]).isEmpty = false := by simp
        refine ⟨(acc ++ [(x, a)], nx, w2), ⟨c0, c1, c2, c9, by simp only; rw [hnb]; exact c10, c11, g2, by simp; omega, q2, ?_, ?_⟩, by simp only; omega⟩
        · simp only [hem]; rw [r1]; simp
        · simp only [hem]; exact r2
      have go : ∀ (env2 : Env) (P : Env → Heap → Prop) (Q : AExit → Env → Heap → Prop), env2 0 = sv l → env2 1 = .bool nums → env2 2 = .bool lo → env2 9 = .slice aa acc.length ca → env2 10 = .int .i64 nb → env2 12 = ptr h'.size → env2 13 = .int .i64 (pl : Nat) → (∀ (e : Env) (h2 : Heap), (∃ w2, e 0 = sv l ∧ e 1 = .bool nums ∧ e 2 = .bool lo ∧ e 9 = w2 ∧ e 10 = .int .i64 nb ∧ e 11 = .int .i64 (nx : Nat) ∧ Grow h.size 57 5 h h2 (.slice none 0 0) w2 (elems sgC ((acc ++ [(x, a)]).map (·.1)))) → P e h2) → Ok X ⟨h.size, []⟩ C1 env2 (h'.push (.cells (sgC x) 57)) (blockQ 1 (thenQ P Q)) := by
        intro env2 P Q d0 d1 d2 d9 d10 d12 d13 K
        exact fin env2 _ d0 d1 d2 d9 d10 d12 d13 fun e h2 w2 c0 c1 c2 c9 c10 c11 q2 => K e h2 ⟨w2, c0, c1, c2, c9, c10, c11, q2⟩
      have h59' : fi = false → b.toNat = 59 := fun q => by rcases hs with q2 | q2; rw [q] at q2; cases q2; rw [h59] at q2; simpa using q2
      cases fi with
      | true =>
        have h0 := hfl.1 rfl
        have ha' : a = i := by rw [← ha]; rfl
        subst ha'
        have hacc : acc = [] := List.length_eq_zero_iff.1 h0
        have hb1 : badI (if lo then none else fb none acc) = -1 := by rw [hacc]; cases lo <;> rfl
        have hb2 : nb = -1 := by rw [← hnb, hacc]; cases lo <;> rfl
        rw [hb1] at e10
        rw [hb2] at go step
        cases lo
        all_goals (repeat' (first
 | refine za ?_ | refine zb ?_ | refine zc ?_ | refine zd ?_ | refine ze ?_ | refine zf ?_ | refine zg ?_ | refine zh ?_ | (refine zi ?_; try refine RgD_plain rfl ?_) | refine w_drawn rfl ?_ | refine zj ?_ | refine zl ?_
 | ((first | apply zs | (apply zt; (focus rfl)) | (apply zu; (focus rfl)) | (apply zv; (focus rfl)) | apply zw | apply zx | apply zy | apply zB | apply zC | apply zD | apply zE | apply zF); (focus ((conv => lhs; simp (disch := omega) [-env0_get, bound, List.getElem?_cons_zero, List.getElem?_cons_succ, odt, odf, oip, oin, obt, obf, ont, onf, wrapI, owu, ow8, ow32, otd, oe0, oe1, oe2, oe3, oe4, oe5, oe6, otn, ot1, ot2, ot4, e0, e1, e2, e9, e10, e11, h0, o1, o2, o3]); first | done | rfl)); first | apply zk | (apply zn; (focus rfl); try (focus (first | rfl | (simp [e0, e1, e2, e9, e10, e11, h0, o1, o2, o3]; done)))) | (apply zo; (focus rfl)) | apply gv_u | apply gv_tt | apply gv_ff | apply gv_ft | apply gv_tf | (apply gv_split <;> intro hc <;> try simp only [decide_eq_true_eq, decide_eq_false_iff_not, beq_iff_eq, beq_eq_false_iff_ne, bne_iff_ne, bne_eq_false_iff_eq, Bool.not_true, Bool.not_false, ne_eq] at hc) | exact (one18_runs hl hale))
 | (simp (disch := omega) only [thenQ_normal, thenQ_exit, thenQ_ret, blockQ_normal, blockQ_ret, blockQ_exit_same, blockQ_exit_ne])))
        all_goals refine go _ _ _ (by simp [e0]) (by simp [e1]) (by simp [e2]) (by simp [e9]) (by simp [e10]) (by simp) (by simp) (fun e h2 hq => ?_)
        all_goals (obtain ⟨w2, c0, c1, c2, c9, c10, c11, q2⟩ := hq; exact step e h2 w2 c0 c1 c2 c9 c10 c11 q2)
      | false =>
        have hpos := hfl.2 rfl
        have h59' := h59' rfl
        have ha' : sk lo l (i + 1) = a := ha
        obtain ⟨q, hq⟩ : ∃ q, acc.getLast? = some q := by
          cases hq : acc.getLast? with
          | some q => exact ⟨q, rfl⟩
          | none => have := List.getLast?_eq_none_iff.1 hq; rw [this] at hpos; simp at hpos
        obtain ⟨bl, ol, cs, rfl, hbl, hcs, hgl⟩ := hlast q hq
        have nbl : ¬ bl = h'.size := by omega
        have hlen2 : ((acc.length : Int) - 1) = ((acc.length - 1 : Nat) : Int) := by omega
        obtain ⟨bo, hbo⟩ : ∃ bo, (if lo then none else fb none acc) = bo := ⟨_, rfl⟩
        rw [hbo] at e10 hbad
        cases hless : lessC (x.s.a, x.s.b) (q.1.s.c, q.1.s.d) with
        | true =>
          cases bo with
          | some b0 =>
            have hb2 : nb = b0 := by rw [← hnb, hbad]; rfl
            simp only [badI] at e10
            rw [hb2] at go step
            have hlo : lo = false := by cases lo; rfl; simp at hbo
            subst hlo
            repeat' (first
 | refine za ?_ | refine zb ?_ | refine zc ?_ | refine zd ?_ | refine ze ?_ | refine zf ?_ | refine zg ?_ | refine zh ?_ | (refine zi ?_; try refine RgD_plain rfl ?_) | refine w_drawn rfl ?_ | refine zj ?_ | refine zl ?_
 | ((first | apply zs | (apply zt; (focus rfl)) | (apply zu; (focus rfl)) | (apply zv; (focus rfl)) | apply zw | apply zx | apply zy | apply zB | apply zC | apply zD | apply zE | apply zF); (focus ((conv => lhs; simp (disch := omega) [-env0_get, bound, List.getElem?_cons_zero, List.getElem?_cons_succ, odt, odf, oip, oin, obt, obf, ont, onf, wrapI, owu, ow8, ow32, otd, oe0, oe1, oe2, oe3, oe4, oe5, oe6, otn, ot1, ot2, ot4, e0, e1, e2, e9, e10, e11, hb, ha', o1, o2, o3]); first | done | rfl)); first | apply zk | (apply zn; (focus rfl); try (focus (first | rfl | (simp [e0, e1, e2, e9, e10, e11, hb, ha', o1, o2, o3]; done)))) | (apply zo; (focus rfl)) | apply gv_u | apply gv_tt | apply gv_ff | apply gv_ft | apply gv_tf | (apply gv_split <;> intro hc <;> try simp only [decide_eq_true_eq, decide_eq_false_iff_not, beq_iff_eq, beq_eq_false_iff_ne, bne_iff_ne, bne_eq_false_iff_eq, Bool.not_true, Bool.not_false, ne_eq] at hc) | exact (blanks18_runs (i := i + 1) hl (by omega)) | exact (one18_runs hl hale))
 | (simp (disch := omega) only [thenQ_normal, thenQ_exit, thenQ_ret, blockQ_normal, blockQ_ret, blockQ_exit_same, blockQ_exit_ne]))
            refine go _ _ _ (by simp [e0]) (by simp [e1]) (by simp [e2]) (by simp [e9]) (by simp [e10]) (by simp) (by simp) (fun e h2 hq => ?_)
            obtain ⟨w2, c0, c1, c2, c9, c10, c11, q2⟩ := hq
            exact step e h2 w2 c0 c1 c2 c9 c10 c11 q2
          | none =>
            simp only [badI] at e10
            cases lo with
            | true =>
              have hb2 : nb = -1 := by rw [← hnb, hbad]; simp [badI]
              rw [hb2] at go step
              repeat' (first
 | refine za ?_ | refine zb ?_ | refine zc ?_ | refine zd ?_ | refine ze ?_ | refine zf ?_ | refine zg ?_ | refine zh ?_ | (refine zi ?_; try refine RgD_plain rfl ?_) | refine w_drawn rfl ?_ | refine zj ?_ | refine zl ?_
 | ((first | apply zs | (apply zt; (focus rfl)) | (apply zu; (focus rfl)) | (apply zv; (focus rfl)) | apply zw | apply zx | apply zy | apply zB | apply zC | apply zD | apply zE | apply zF); (focus ((conv => lhs; simp (disch := omega) [-env0_get, bound, List.getElem?_cons_zero, List.getElem?_cons_succ, odt, odf, oip, oin, obt, obf, ont, onf, wrapI, owu, ow8, ow32, otd, oe0, oe1, oe2, oe3, oe4, oe5, oe6, otn, ot1, ot2, ot4, e0, e1, e2, e9, e10, e11, hb, ha', o1, o2, o3]); first | done | rfl)); first | apply zk | (apply zn; (focus rfl); try (focus (first | rfl | (simp [e0, e1, e2, e9, e10, e11, hb, ha', o1, o2, o3]; done)))) | (apply zo; (focus rfl)) | apply gv_u | apply gv_tt | apply gv_ff | apply gv_ft | apply gv_tf | (apply gv_split <;> intro hc <;> try simp only [decide_eq_true_eq, decide_eq_false_iff_not, beq_iff_eq, beq_eq_false_iff_ne, bne_iff_ne, bne_eq_false_iff_eq, Bool.not_true, Bool.not_false, ne_eq] at hc) | exact (blanks18_runs (i := i + 1) hl (by omega)) | exact (one18_runs hl hale))
 | (simp (disch := omega) only [thenQ_normal, thenQ_exit, thenQ_ret, blockQ_normal, blockQ_ret, blockQ_exit_same, blockQ_exit_ne]))
              refine go _ _ _ (by simp [e0]) (by simp [e1]) (by simp [e2]) (by simp [e9]) (by simp [e10]) (by simp) (by simp) (fun e h2 hq => ?_)
              obtain ⟨w2, c0, c1, c2, c9, c10, c11, q2⟩ := hq
              exact step e h2 w2 c0 c1 c2 c9 c10 c11 q2
            | false =>
              have hb2 : nb = a := by rw [← hnb, hbad]; simp [badI, hq, hless]
              rw [hb2] at go step
              repeat' (first
 | refine za ?_ | refine zb ?_ | refine zc ?_ | refine zd ?_ | refine ze ?_ | refine zf ?_ | refine zg ?_ | refine zh ?_ | (refine zi ?_; try refine RgD_plain rfl ?_) | refine w_drawn rfl ?_ | refine zj ?_ | refine zl ?_
 | ((first | apply zs | (apply zt; (focus rfl)) | (apply zu; (focus rfl)) | (apply zv; (focus rfl)) | apply zw | apply zx | apply zy | apply zB | apply zC | apply zD | apply zE | apply zF); (focus ((conv => lhs; simp (disch := omega) [-env0_get, bound, List.getElem?_cons_zero, List.getElem?_cons_succ, odt, odf, oip, oin, obt, obf, ont, onf, wrapI, owu, ow8, ow32, otd, oe0, oe1, oe2, oe3, oe4, oe5, oe6, otn, ot1, ot2, ot4, e0, e1, e2, e9, e10, e11, hb, ha', o1, o2, o3, hlen2, hcs, hgl, nbl, hless]); first | done | rfl)); first | apply zk | (apply zn; (focus rfl); try (focus (first | rfl | (simp [e0, e1, e2, e9, e10, e11, hb, ha', o1, o2, o3, hlen2, hcs, hgl, nbl, hless]; done)))) | (apply zo; (focus rfl)) | apply gv_u | apply gv_tt | apply gv_ff | apply gv_ft | apply gv_tf | (apply gv_split <;> intro hc <;> try simp only [decide_eq_true_eq, decide_eq_false_iff_not, beq_iff_eq, beq_eq_false_iff_ne, bne_iff_ne, bne_eq_false_iff_eq, Bool.not_true, Bool.not_false, ne_eq] at hc) | exact (blanks18_runs (i := i + 1) hl (by omega)) | exact (one18_runs hl hale) | exact less_runs)
 | (simp (disch := omega) only [thenQ_normal, thenQ_exit, thenQ_ret, blockQ_normal, blockQ_ret, blockQ_exit_same, blockQ_exit_ne]))
              refine go _ _ _ (by simp [e0]) (by simp [e1]) (by simp [e2]) (by simp [e9]) (by simp [e10]) (by simp) (by simp) (fun e h2 hq => ?_)
              obtain ⟨w2, c0, c1, c2, c9, c10, c11, q2⟩ := hq
              exact step e h2 w2 c0 c1 c2 c9 c10 c11 q2
        | false =>
          have hb2 : nb = badI bo := by
            rw [← hnb, hbad]
            cases bo with
            | some b0 => rfl
            | none => simp [hq, hless]
          rw [hb2] at go step
          cases bo with
          | some b0 =>
            simp only [badI] at e10 go step
            have hlo : lo = false := by cases lo; rfl; simp at hbo
            subst hlo
            repeat' (first
 | refine za ?_ | refine zb ?_ | refine zc ?_ | refine zd ?_ | refine ze ?_ | refine zf ?_ | refine zg ?_ | refine zh ?_ | (refine zi ?_; try refine RgD_plain rfl ?_) | refine w_drawn rfl ?_ | refine zj ?_ | refine zl ?_
 | ((first | apply zs | (apply zt; (focus rfl)) | (apply zu; (focus rfl)) | (apply zv; (focus rfl)) | apply zw | apply zx | apply zy | apply zB | apply zC | apply zD | apply zE | apply zF); (focus ((conv => lhs; simp (disch := omega) [-env0_get, bound, List.getElem?_cons_zero, List.getElem?_cons_succ, odt, odf, oip, oin, obt, obf, ont, onf, wrapI, owu, ow8, ow32, otd, oe0, oe1, oe2, oe3, oe4, oe5, oe6, otn, ot1, ot2, ot4, e0, e1, e2, e9, e10, e11, hb, ha', o1, o2, o3]); first | done | rfl)); first | apply zk | (apply zn; (focus rfl); try (focus (first | rfl | (simp [e0, e1, e2, e9, e10, e11, hb, ha', o1, o2, o3]; done)))) | (apply zo; (focus rfl)) | apply gv_u | apply gv_tt | apply gv_ff | apply gv_ft | apply gv_tf | (apply gv_split <;> intro hc <;> try simp only [decide_eq_true_eq, decide_eq_false_iff_not, beq_iff_eq, beq_eq_false_iff_ne, bne_iff_ne, bne_eq_false_iff_eq, Bool.not_true, Bool.not_false, ne_eq] at hc) | exact (blanks18_runs (i := i + 1) hl (by omega)) | exact (one18_runs hl hale))
 | (simp (disch := omega) only [thenQ_normal, thenQ_exit, thenQ_ret, blockQ_normal, blockQ_ret, blockQ_exit_same, blockQ_exit_ne]))
            refine go _ _ _ (by simp [e0]) (by simp [e1]) (by simp [e2]) (by simp [e9]) (by simp [e10]) (by simp) (by simp) (fun e h2 hq => ?_)
            obtain ⟨w2, c0, c1, c2, c9, c10, c11, q2⟩ := hq
            exact step e h2 w2 c0 c1 c2 c9 c10 c11 q2
          | none =>
            simp only [badI] at e10 go step
            cases lo
            all_goals (repeat' (first
 | refine za ?_ | refine zb ?_ | refine zc ?_ | refine zd ?_ | refine ze ?_ | refine zf ?_ | refine zg ?_ | refine zh ?_ | (refine zi ?_; try refine RgD_plain rfl ?_) | refine w_drawn rfl ?_ | refine zj ?_ | refine zl ?_
 | ((first | apply zs | (apply zt; (focus rfl)) | (apply zu; (focus rfl)) | (apply zv; (focus rfl)) | apply zw | apply zx | apply zy | apply zB | apply zC | apply zD | apply zE | apply zF); (focus ((conv => lhs; simp (disch := omega) [-env0_get, bound, List.getElem?_cons_zero, List.getElem?_cons_succ, odt, odf, oip, oin, obt, obf, ont, onf, wrapI, owu, ow8, ow32, otd, oe0, oe1, oe2, oe3, oe4, oe5, oe6, otn, ot1, ot2, ot4, e0, e1, e2, e9, e10, e11, hb, ha', o1, o2, o3, hlen2, hcs, hgl, nbl, hless]); first | done | rfl)); first | apply zk | (apply zn; (focus rfl); try (focus (first | rfl | (simp [e0, e1, e2, e9, e10, e11, hb, ha', o1, o2, o3, hlen2, hcs, hgl, nbl, hless]; done)))) | (apply zo; (focus rfl)) | apply gv_u | apply gv_tt | apply gv_ff | apply gv_ft | apply gv_tf | (apply gv_split <;> intro hc <;> try simp only [decide_eq_true_eq, decide_eq_false_iff_not, beq_iff_eq, beq_eq_false_iff_ne, bne_iff_ne, bne_eq_false_iff_eq, Bool.not_true, Bool.not_false, ne_eq] at hc) | exact (blanks18_runs (i := i + 1) hl (by omega)) | exact (one18_runs hl hale) | exact less_runs)
 | (simp (disch := omega) only [thenQ_normal, thenQ_exit, thenQ_ret, blockQ_normal, blockQ_ret, blockQ_exit_same, blockQ_exit_ne])))
            all_goals refine go _ _ _ (by simp [e0]) (by simp [e1]) (by simp [e2]) (by simp [e9]) (by simp [e10]) (by simp) (by simp) (fun e h2 hq => ?_)
            all_goals obtain ⟨w2, c0, c1, c2, c9, c10, c11, q2⟩ := hq
            all_goals exact step e h2 w2 c0 c1 c2 c9 c10 c11 q2
    · rw [rowE_bad hlt hs (by rw [ha]; exact he), ha] at r2
      rw [r2] at eR
      rw [show R = ([], (oneN nums lo l a).2.1, (oneN nums lo l a).2.2) by rw [eR]; simp [he]]
      cases fi with
      | true =>
        have h0 := hfl.1 rfl
        have ha' : a = i := by rw [← ha]; rfl
        subst ha'
        repeat' (first
 | refine za ?_ | refine zb ?_ | refine zc ?_ | refine zd ?_ | refine ze ?_ | refine zf ?_ | refine zg ?_ | refine zh ?_ | (refine zi ?_; try refine RgD_plain rfl ?_) | refine w_drawn rfl ?_ | refine zj ?_ | refine zl ?_
 | ((first | apply zs | (apply zt; (focus rfl)) | (apply zu; (focus rfl)) | (apply zv; (focus rfl)) | apply zw | apply zx | apply zy | apply zB | apply zC | apply zD | apply zE | apply zF); (focus ((conv => lhs; simp (disch := omega) [-env0_get, bound, List.getElem?_cons_zero, List.getElem?_cons_succ, odt, odf, oip, oin, obt, obf, ont, onf, wrapI, owu, ow8, ow32, otd, oe0, oe1, oe2, oe3, oe4, oe5, oe6, otn, ot1, ot2, ot4, e0, e1, e2, e9, e11, h0]); first | done | rfl)); first | apply zk | (apply zn; (focus rfl); try (focus (first | rfl | (simp [e0, e1, e2, e9, e11, h0]; done)))) | (apply zo; (focus rfl)) | apply gv_u | apply gv_tt | apply gv_ff | apply gv_ft | apply gv_tf | (apply gv_split <;> intro hc <;> try simp only [decide_eq_true_eq, decide_eq_false_iff_not, beq_iff_eq, beq_eq_false_iff_ne, bne_iff_ne, bne_eq_false_iff_eq, Bool.not_true, Bool.not_false, ne_eq] at hc) | exact (one18_runs hl hale))
 | (simp (disch := omega) only [thenQ_normal, thenQ_exit, thenQ_ret, blockQ_normal, blockQ_ret, blockQ_exit_same, blockQ_exit_ne]))
        exact ⟨_, rfl, .refl _ _, hnil _⟩
      | false =>
        have hpos := hfl.2 rfl
        have h59' : b.toNat = 59 := by rcases hs with q | q; cases q; rw [h59] at q; simpa using q
        have ha' : sk lo l (i + 1) = a := ha
        repeat' (first
 | refine za ?_ | refine zb ?_ | refine zc ?_ | refine zd ?_ | refine ze ?_ | refine zf ?_ | refine zg ?_ | refine zh ?_ | (refine zi ?_; try refine RgD_plain rfl ?_) | refine w_drawn rfl ?_ | refine zj ?_ | refine zl ?_
 | ((first | apply zs | (apply zt; (focus rfl)) | (apply zu; (focus rfl)) | (apply zv; (focus rfl)) | apply zw | apply zx | apply zy | apply zB | apply zC | apply zD | apply zE | apply zF); (focus ((conv => lhs; simp (disch := omega) [-env0_get, bound, List.getElem?_cons_zero, List.getElem?_cons_succ, odt, odf, oip, oin, obt, obf, ont, onf, wrapI, owu, ow8, ow32, otd, oe0, oe1, oe2, oe3, oe4, oe5, oe6, otn, ot1, ot2, ot4, e0, e1, e2, e9, e11, hb, ha']); first | done | rfl)); first | apply zk | (apply zn; (focus rfl); try (focus (first | rfl | (simp [e0, e1, e2, e9, e11, hb, ha']; done)))) | (apply zo; (focus rfl)) | apply gv_u | apply gv_tt | apply gv_ff | apply gv_ft | apply gv_tf | (apply gv_split <;> intro hc <;> try simp only [decide_eq_true_eq, decide_eq_false_iff_not, beq_iff_eq, beq_eq_false_iff_ne, bne_iff_ne, bne_eq_false_iff_eq, Bool.not_true, Bool.not_false, ne_eq] at hc) | exact (blanks18_runs (i := i + 1) hl (by omega)) | exact (one18_runs hl hale))
 | (simp (disch := omega) only [thenQ_normal, thenQ_exit, thenQ_ret, blockQ_normal, blockQ_ret, blockQ_exit_same, blockQ_exit_ne]))
        exact ⟨_, rfl, .refl _ _, hnil _⟩
  · -- the end
    have hil : i = l.length := by omega
    rw [rowE_end hlt] at r1 r2
    simp only [List.append_nil] at r1
    rw [r1, r2] at eR
    simp only [ne_eq, not_true_eq_false, if_false] at eR
    obtain ⟨bo, hbo⟩ : ∃ bo, (if lo then none else fb none acc) = bo := ⟨_, rfl⟩
    rw [hbo] at eR e10
    cases bo with
    | some b =>
      simp only [badI] at e10 eR
      rw [eR]
      repeat' (first
 | refine za ?_ | refine zb ?_ | refine zc ?_ | refine zd ?_ | refine ze ?_ | refine zf ?_ | refine zg ?_ | refine zh ?_ | (refine zi ?_; try refine RgD_plain rfl ?_) | refine w_drawn rfl ?_ | refine zj ?_ | refine zl ?_
 | ((first | apply zs | (apply zt; (focus rfl)) | (apply zu; (focus rfl)) | (apply zv; (focus rfl)) | apply zx | apply zy | apply zB | apply zC | apply zD | apply zE | apply zF); (focus ((conv => lhs; simp (disch := omega) [-env0_get, bound, List.getElem?_cons_zero, List.getElem?_cons_succ, odt, odf, oip, oin, obt, obf, ont, onf, wrapI, owu, ow8, ow32, otd, oe0, oe1, oe2, oe3, oe4, oe5, oe6, otn, ot1, ot2, ot4, e0, e1, e2, e9, e10, e11]); first | done | rfl)); first | apply zk | (apply zn; (focus rfl); try (focus (first | rfl | (simp [e0, e1, e2, e9, e10, e11]; done)))) | (apply zo; (focus rfl)) | apply gv_u | apply gv_tt | apply gv_ff | apply gv_ft | apply gv_tf | (apply gv_split <;> intro hc <;> try simp only [decide_eq_true_eq, decide_eq_false_iff_not, beq_iff_eq, beq_eq_false_iff_ne, bne_iff_ne, bne_eq_false_iff_eq, Bool.not_true, Bool.not_false, ne_eq] at hc))
 | (simp (disch := omega) only [thenQ_normal, thenQ_exit, thenQ_ret, blockQ_normal, blockQ_ret, blockQ_exit_same, blockQ_exit_ne]))
      exact ⟨_, rfl, .refl _ _, hnil _⟩
    | none =>
      simp only [badI] at e10 eR
      rw [eR]
      obtain ⟨w', h2, q1, q2, q3, q4⟩ := finish_tup (f := f) (n := (acc.map (·.1)).length) (as_ := []) (bs := [.int .i64 (l.length : Nat), .int .i64 0]) hg.buf (by omega) (by rw [elems_len sgC_len]) hf (all_below_ints (elems_ints sgC_ints _)) (by simp) (by intro v hv; simp at hv; rcases hv with rfl | rfl <;> exact ⟨_, _, rfl⟩)
      repeat' (first
 | refine za ?_ | refine zb ?_ | refine zc ?_ | refine zd ?_ | refine ze ?_ | refine zf ?_ | refine zg ?_ | refine zh ?_ | (refine zi ?_; try refine RgD_plain rfl ?_) | refine w_drawn rfl ?_ | refine zj ?_ | refine zl ?_
 | ((first | apply zs | (apply zt; (focus rfl)) | (apply zu; (focus rfl)) | (apply zv; (focus rfl)) | apply zx | apply zy | apply zB | apply zC | apply zD | apply zE | apply zF); (focus ((conv => lhs; simp (disch := omega) [-env0_get, bound, List.getElem?_cons_zero, List.getElem?_cons_succ, odt, odf, oip, oin, obt, obf, ont, onf, wrapI, owu, ow8, ow32, otd, oe0, oe1, oe2, oe3, oe4, oe5, oe6, otn, ot1, ot2, ot4, e0, e1, e2, e9, e10, e11]); first | done | rfl)); first | apply zk | (apply zn; (focus rfl); try (focus (first | rfl | (simp [e0, e1, e2, e9, e10, e11]; done)))) | (apply zo; (focus rfl)) | apply gv_u | apply gv_tt | apply gv_ff | apply gv_ft | apply gv_tf | (apply gv_split <;> intro hc <;> try simp only [decide_eq_true_eq, decide_eq_false_iff_not, beq_iff_eq, beq_eq_false_iff_ne, bne_iff_ne, bne_eq_false_iff_eq, Bool.not_true, Bool.not_false, ne_eq] at hc))
 | (simp (disch := omega) only [thenQ_normal, thenQ_exit, thenQ_ret, blockQ_normal, blockQ_ret, blockQ_exit_same, blockQ_exit_ne]))
      exact w_endr (vs := [w, .int .i64 (l.length : Nat), .int .i64 0]) (by simp [e9]) q1 ⟨w', rfl, q2, q4⟩
end Go.Proofs.Ytlgbeekhaoiggaa
end

section
namespace Go.Proofs.Ytlgbeekhaoiggaa
open Go.AM
set_option maxHeartbeats 4000000
variable {f : Nat} {h : Heap}
theorem skip_idem (l : List UInt8) (i : Nat) : skip l (skip l i) = skip l i := by
  have key : ∀ n i, l.length - i = n → skip l (skip l i) = skip l i := by
    intro n
    induction n with
    | zero => intro i hn; rw [skip_end l i (by omega), skip_end l i (by omega)]
    | succ n ih =>
      intro i hn
      rw [skip_step l i (by omega)]
      split
      · exact ih (i + 1) (by omega)
      · rename_i h32; rw [skip_step l i (by omega), if_neg h32]
  exact key _ i rfl
theorem sk_idem (lo : Bool) (l : List UInt8) (i : Nat) : sk lo l (sk lo l i) = sk lo l i := by
  unfold sk; split
  · exact skip_idem l i
  · rfl
theorem spC_one (xs : List Sg) : (elems (fun x : Sg => spC x.s) xs).all Go.AM.one = true := all_one_ints (elems_ints (fun x => spC_ints x.s) xs)
theorem sgC_one (xs : List Sg) : (elems sgC xs).all Go.AM.one = true := all_one_ints (elems_ints sgC_ints xs)
theorem oneS_R {p : Nat} {l : List UInt8} {lo : Bool} {i : Nat} (hp : h[p]? = some (tdO l lo i)) (hf : f ≤ p) (hfs : f ≤ h.size) (hl : l.length ≤ 900000) (hi : i ≤ l.length) :
    callR X ⟨f, []⟩ 78 [ptr p] h fun v h' => v = .tuple #[spV (oneN false lo l i).1.s, .int .i64 (oneN false lo l i).2.2] ∧ h'[p]? = some (tdO l lo (oneN false lo l i).2.1) ∧ KeepB h h' (some p) := by
  have e : oneN false lo l i = (⟨(readN lo (l.drop i)).1, 0⟩, i + (readN lo (l.drop i)).2.1, (readN lo (l.drop i)).2.2) := by unfold oneN; rw [if_pos (.inr rfl)]
  rw [e]
  exact tspan_R hp hf hfs hl hi
theorem ofS_runs {x : Sg} : Runs X ⟨f, []⟩ 79 [spV x.s] h (spV x.s) h := by
  refine Runs_of rfl f79_is ?_
  simp only [f79r0, f79r1, f79b]
  repeat' (first
 | refine za ?_ | refine zb ?_ | refine zc ?_ | refine zd ?_ | refine ze ?_ | refine zf ?_ | refine zg ?_ | refine zh ?_ | (refine zi ?_; try refine RgD_plain rfl ?_) | refine w_drawn rfl ?_ | refine zj ?_ | refine zl ?_
 | ((first | apply zs | (apply zt; (focus rfl)) | (apply zu; (focus rfl)) | (apply zv; (focus rfl)) | apply zx | apply zy | apply zB | apply zC | apply zD | apply zE | apply zF); (focus ((conv => lhs; simp (disch := omega) [-env0_get, bound, List.getElem?_cons_zero, List.getElem?_cons_succ, odt, odf, oip, oin, obt, obf, ont, onf, wrapI, owu, ow8, ow32, otd, oe0, oe1, oe2, oe3, oe4, oe5, oe6, otn, ot1, ot2, ot4]); first | done | rfl)); first | apply zk | (apply zn; (focus rfl); try (focus (first | rfl | (simp; done)))) | (apply zo; (focus rfl)) | apply gv_u | apply gv_tt | apply gv_ff | apply gv_ft | apply gv_tf | (apply gv_split <;> intro hc <;> try simp only [decide_eq_true_eq, decide_eq_false_iff_not, beq_iff_eq, beq_eq_false_iff_ne, bne_iff_ne, bne_eq_false_iff_eq, Bool.not_true, Bool.not_false, ne_eq] at hc))
 | (simp (disch := omega) only [thenQ_normal, thenQ_exit, thenQ_ret, blockQ_normal, blockQ_ret, blockQ_exit_same, blockQ_exit_ne]))
theorem ofG_runs {x : Sg} : Runs X ⟨f, []⟩ 86 [sgV x] h (spV x.s) h := by
  refine Runs_of rfl f86_is ?_
  simp only [f86r0, f86r1, f86b]
  repeat' (first
 | refine za ?_ | refine zb ?_ | refine zc ?_ | refine zd ?_ | refine ze ?_ | refine zf ?_ | refine zg ?_ | refine zh ?_ | (refine zi ?_; try refine RgD_plain rfl ?_) | refine w_drawn rfl ?_ | refine zj ?_ | refine zl ?_
 | ((first | apply zs | (apply zt; (focus rfl)) | (apply zu; (focus rfl)) | (apply zv; (focus rfl)) | apply zx | apply zy | apply zB | apply zC | apply zD | apply zE | apply zF); (focus ((conv => lhs; simp (disch := omega) [-env0_get, bound, List.getElem?_cons_zero, List.getElem?_cons_succ, odt, odf, oip, oin, obt, obf, ont, onf, wrapI, owu, ow8, ow32, otd, oe0, oe1, oe2, oe3, oe4, oe5, oe6, otn, ot1, ot2, ot4]); first | done | rfl)); first | apply zk | (apply zn; (focus rfl); try (focus (first | rfl | (simp; done)))) | (apply zo; (focus rfl)) | apply gv_u | apply gv_tt | apply gv_ff | apply gv_ft | apply gv_tf | (apply gv_split <;> intro hc <;> try simp only [decide_eq_true_eq, decide_eq_false_iff_not, beq_iff_eq, beq_eq_false_iff_ne, bne_iff_ne, bne_eq_false_iff_eq, Bool.not_true, Bool.not_false, ne_eq] at hc))
 | (simp (disch := omega) only [thenQ_normal, thenQ_exit, thenQ_ret, blockQ_normal, blockQ_ret, blockQ_exit_same, blockQ_exit_ne]))
structure AS (f p : Nat) (h0 h : Heap) (l : List UInt8) (lo : Bool) (i : Nat) (T k : Nat) (w : Value) (c : List Value) (wb : Value) (bs : List Nat) : Prop where
  gr : h[p]? = some (tdO l lo i)
  gw : Buf f h T k w c
  gb : Buf f h 3 1 wb (nvs bs)
  kp : KeepB h0 h (some p)
  wp : ∀ y, blk w = some y → h0.size ≤ y ∧ blk wb ≠ some y
  bp : ∀ y, blk wb = some y → h0.size ≤ y
theorem AS.keep {f p : Nat} {h0 h h' : Heap} {l : List UInt8} {lo : Bool} {i i' : Nat} {T k : Nat} {w : Value} {c : List Value} {wb : Value} {bs : List Nat} (A : AS f p h0 h l lo i T k w c wb bs) (hp : p < h0.size) (hr : h'[p]? = some (tdO l lo i')) (kk : KeepB h h' (some p)) : AS f p h0 h' l lo i' T k w c wb bs :=
  ⟨hr, A.gw.keepB kk (.inr (fun q => by have := (A.wp p q).1; omega)), A.gb.keepB kk (.inr (fun q => by have := A.bp p q; omega)), A.kp.trans kk, A.wp, A.bp⟩
theorem AS.push {f p : Nat} {h0 h : Heap} {l : List UInt8} {lo : Bool} {i : Nat} {T k : Nat} {w : Value} {c : List Value} {wb : Value} {bs : List Nat} (A : AS f p h0 h l lo i T k w c wb bs) (hp : p < h0.size) (x : AObj) : AS f p h0 (h.push x) l lo i T k w c wb bs :=
  A.keep hp (by have := lt_of A.gr; rw [Array.getElem?_push, if_neg (by omega)]; exact A.gr) ((KeepB.refl h _).push x)
theorem AS.addB {f p : Nat} {h0 h : Heap} {l : List UInt8} {lo : Bool} {i : Nat} {T k : Nat} {w : Value} {c : List Value} {wb : Value} {bs : List Nat} {n : Nat} {x : Value} (A : AS f p h0 h l lo i T k w c wb bs) (hp : p < h0.size) (hfs : f ≤ h0.size) (hbl : bs.length ≤ 1000000) (hx : srcCells h 1 x = some (1, [.int .i64 n])) :
    ∃ wb' h', aAppend ⟨f, []⟩ h 3 1 8 wb x = some (wb', h') ∧ AS f p h0 h' l lo i T k w c wb' (bs ++ [n]) ∧ h.size < h'.size := by
  have hsz := A.kp.1
  obtain ⟨v', h', q1, q2, q3, q4⟩ := append_buf (f := f) (by_ := 8) (n := (nvs bs).length) (m := 1) (x := x) (l2 := [.int .i64 n]) (by omega : 0 < 1) (by omega) A.gb hx (by omega) (by omega) (nvs_one _) rfl (by simp [nvs]; omega) (by simp [nvs]; omega) rfl
  have hlt := lt_of A.gr
  have hpb : blk wb ≠ some p := fun q => by have := A.bp p q; omega
  refine ⟨v', h', q1, ⟨by rw [q3.2 p hlt hpb]; exact A.gr, ?_, by rw [nvs_app]; exact q2, ?_, fun y hy => ⟨(A.wp y hy).1, ?_⟩, fun y hy => ?_⟩, ?_⟩
  · refine A.gw.keepB q3 ?_
    cases hb : blk wb with
    | none => exact .inl rfl
    | some y => exact .inr fun q => (A.wp y q).2 hb
  · refine ⟨by have := q3.1; omega, fun y hy hne => ?_⟩
    rw [q3.2 y (by omega) (fun q => by have := A.bp y q; omega)]; exact A.kp.2 y hy hne
  · rw [q4]; intro q
    have : y < h.size := by rcases A.gw with ⟨rfl, _⟩ | ⟨b, m, rfl, _, hc, _⟩; simp [blk] at hy; simp [blk] at hy; subst hy; exact lt_of hc
    simp at q; omega
  · rw [q4] at hy; simp at hy; omega
  · have := q3.1
    rcases q2 with ⟨rfl, _⟩ | ⟨b, m, rfl, _, hc, _⟩
    · simp [blk] at q4
    · simp [blk] at q4; have := lt_of hc; omega
theorem AS.addW {f p : Nat} {h0 h : Heap} {l : List UInt8} {lo : Bool} {i : Nat} {T k by_ n : Nat} {w : Value} {c : List Value} {wb : Value} {bs : List Nat} {x : Value} {l2 : List Value} (A : AS f p h0 h l lo i T k w c wb bs) (hp : p < h0.size) (hfs : f ≤ h0.size) (hk : 0 < k) (hn : n * k = c.length) (hnl : n ≤ 1000000) (hby : by_ ≤ 1000) (hc1 : c.all Go.AM.one = true) (hl1 : l2.all Go.AM.one = true) (hl2 : l2.length = 1 * k) (hx : srcCells h k x = some (1, l2)) :
    ∃ w' h', aAppend ⟨f, []⟩ h T k by_ w x = some (w', h') ∧ AS f p h0 h' l lo i T k w' (c ++ l2) wb bs ∧ h.size < h'.size := by
  have hsz := A.kp.1
  obtain ⟨v', h', q1, q2, q3, q4⟩ := append_buf (f := f) (by_ := by_) (n := n) (m := 1) (x := x) (l2 := l2) hk (by omega) A.gw hx (by omega) hn hc1 hl1 (by have : (n + 1) * by_ ≤ 1000001 * 1000 := Nat.mul_le_mul (by omega) hby; omega) (by omega) hl2
  have hlt := lt_of A.gr
  have hpb : blk w ≠ some p := fun q => by have := (A.wp p q).1; omega
  have hbw : blk w = none ∨ blk wb ≠ blk w := by
    cases hb : blk w with
    | none => exact .inl rfl
    | some y => exact .inr (A.wp y hb).2
  refine ⟨v', h', q1, ⟨by rw [q3.2 p hlt hpb]; exact A.gr, q2, A.gb.keepB q3 hbw, ?_, fun y hy => ?_, A.bp⟩, ?_⟩
  · refine ⟨by have := q3.1; omega, fun y hy hne => ?_⟩
    rw [q3.2 y (by omega) (fun q => by have := (A.wp y q).1; omega)]; exact A.kp.2 y hy hne
  · rw [q4] at hy; simp at hy
    refine ⟨by omega, fun q => ?_⟩
    have : y < h.size := by rcases A.gb with ⟨rfl, _⟩ | ⟨b, m, rfl, _, hc, _⟩; simp [blk] at q; simp [blk] at q; subst q; exact lt_of hc
    omega
  · rcases q2 with ⟨rfl, _⟩ | ⟨b, m, rfl, _, hc, _⟩
    · simp [blk] at q4
    · simp [blk] at q4; have := lt_of hc; omega
theorem fb_pre : ∀ (l r : List (Sg × Nat)) (p : Option Sg) (b : Nat), fb p l = some b → fb p (l ++ r) = some b
  | [], r, p, b, hb => by cases p <;> simp [fb] at hb
  | x :: l, r, none, b, hb => by simp only [List.cons_append, fb] at hb ⊢; exact fb_pre l r _ b hb
  | x :: l, r, some p, b, hb => by
    simp only [List.cons_append, fb] at hb ⊢
    split at hb
    · rename_i q; rw [if_pos q]; exact hb
    · rename_i q; rw [if_neg q]; exact fb_pre l r _ b hb
theorem fb_next {l : List (Sg × Nat)} {j : Nat} {x q : Sg × Nat} (h0 : 0 < j) (hx : l[j]? = some x) (hq : l[j - 1]? = some q) (hn : fb none (l.take j) = none) :
    fb none (l.take (j + 1)) = if lessC (x.1.s.a, x.1.s.b) (q.1.s.c, q.1.s.d) = true then some x.2 else none := by
  have hjl := (List.getElem?_eq_some_iff.1 hx).1
  rw [List.take_succ, hx, Option.toList_some, fb_app, hn]
  have hl : lastO none (l.take j) = some q.1 := by
    unfold lastO
    rw [List.getLast?_eq_getElem?, List.length_take, Nat.min_eq_left (by omega), List.getElem?_take, if_pos (by omega), hq]
  rw [hl]
theorem fb_one (l : List (Sg × Nat)) : fb none (l.take 1) = none := by cases l <;> simp [fb]
end Go.Proofs.Ytlgbeekhaoiggaa
end
