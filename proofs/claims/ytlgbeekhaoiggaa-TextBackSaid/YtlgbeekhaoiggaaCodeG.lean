import Derived.Test.YtlgbeekhaoiggaaCodeE
set_option linter.all false
section
namespace Go.Proofs.Ytlgbeekhaoiggaa
open Go.AM
set_option maxHeartbeats 4000000
variable {f : Nat} {h : Heap}
theorem prefix1_runs {l w : List UInt8} (hl : l.length ≤ 1000000) (hw : w.length ≤ 1000) : Runs X ⟨f, []⟩ 168 [sv l, sv w] h (.bool (decide (l.take w.length = w))) h := by
  refine Runs_of rfl f168_is ?_
  simp only [f168r0, f168r1, f168b]
  by_cases hq : l.take w.length = w
  · have hlt : w.length ≤ l.length := by have := congrArg List.length hq; simp at this; omega
    have hb : (l.take w.length == w) = true := by rw [hq]; simp
    rw [decide_eq_true hq]
    repeat' (first
 | refine za ?_ | refine zb ?_ | refine zc ?_ | refine zd ?_ | refine ze ?_ | refine zf ?_ | refine zg ?_ | refine zh ?_ | (refine zi ?_; try refine RgD_plain rfl ?_) | refine w_drawn rfl ?_ | refine zj ?_ | refine zl ?_
 | ((first | apply zs | (apply zt; (focus rfl)) | (apply zu; (focus rfl)) | (apply zv; (focus rfl)) | apply zx | apply zy | apply zB | apply zC | apply zD | apply zE | apply zF); (focus ((conv => lhs; simp (disch := omega) [-env0_get, bound, List.getElem?_cons_zero, List.getElem?_cons_succ, odt, odf, oip, oin, obt, obf, ont, onf, wrapI, owu, ow8, ow32, otd, oe0, oe1, oe2, oe3, oe4, oe5, oe6, otn, ot1, ot2, ot4, hb]); first | done | rfl)); first | apply zk | (apply zn; (focus rfl); try (focus (first | rfl | (simp [hb]; done)))) | (apply zo; (focus rfl)) | apply gv_u | apply gv_tt | apply gv_ff | apply gv_ft | apply gv_tf | (apply gv_split <;> intro hc <;> try simp only [decide_eq_true_eq, decide_eq_false_iff_not, beq_iff_eq, beq_eq_false_iff_ne, bne_iff_ne, bne_eq_false_iff_eq, Bool.not_true, Bool.not_false, ne_eq] at hc))
 | (simp (disch := omega) only [thenQ_normal, thenQ_exit, thenQ_ret, blockQ_normal, blockQ_ret, blockQ_exit_same, blockQ_exit_ne]))
    all_goals simp_all [tup]
  · have hb : (l.take w.length == w) = false := by simpa using hq
    rw [decide_eq_false hq]
    repeat' (first
 | refine za ?_ | refine zb ?_ | refine zc ?_ | refine zd ?_ | refine ze ?_ | refine zf ?_ | refine zg ?_ | refine zh ?_ | (refine zi ?_; try refine RgD_plain rfl ?_) | refine w_drawn rfl ?_ | refine zj ?_ | refine zl ?_
 | ((first | apply zs | (apply zt; (focus rfl)) | (apply zu; (focus rfl)) | (apply zv; (focus rfl)) | apply zx | apply zy | apply zB | apply zC | apply zD | apply zE | apply zF); (focus ((conv => lhs; simp (disch := omega) [-env0_get, bound, List.getElem?_cons_zero, List.getElem?_cons_succ, odt, odf, oip, oin, obt, obf, ont, onf, wrapI, owu, ow8, ow32, otd, oe0, oe1, oe2, oe3, oe4, oe5, oe6, otn, ot1, ot2, ot4, hb]); first | done | rfl)); first | apply zk | (apply zn; (focus rfl); try (focus (first | rfl | (simp [hb]; done)))) | (apply zo; (focus rfl)) | apply gv_u | apply gv_tt | apply gv_ff | apply gv_ft | apply gv_tf | (apply gv_split <;> intro hc <;> try simp only [decide_eq_true_eq, decide_eq_false_iff_not, beq_iff_eq, beq_eq_false_iff_ne, bne_iff_ne, bne_eq_false_iff_eq, Bool.not_true, Bool.not_false, ne_eq] at hc))
 | (simp (disch := omega) only [thenQ_normal, thenQ_exit, thenQ_ret, blockQ_normal, blockQ_ret, blockQ_exit_same, blockQ_exit_ne]))
    all_goals simp_all [tup]
theorem prefix_runs {l w : List UInt8} (hl : l.length ≤ 1000000) (hw : w.length ≤ 1000) : Runs X ⟨f, []⟩ 131 [sv l, sv w] h (.bool (decide (l.take w.length = w))) h := by
  refine Runs_of rfl f131_is ?_
  simp only [f131r0, f131r1, f131b]
  repeat' (first
 | refine za ?_ | refine zb ?_ | refine zc ?_ | refine zd ?_ | refine ze ?_ | refine zf ?_ | refine zg ?_ | refine zh ?_ | (refine zi ?_; try refine RgD_plain rfl ?_) | refine w_drawn rfl ?_ | refine zj ?_ | refine zl ?_
 | ((first | apply zs | (apply zt; (focus rfl)) | (apply zu; (focus rfl)) | (apply zv; (focus rfl)) | apply zw | apply zx | apply zy | apply zB | apply zC | apply zD | apply zE | apply zF); (focus ((conv => lhs; simp (disch := omega) [-env0_get, bound, List.getElem?_cons_zero, List.getElem?_cons_succ, odt, odf, oip, oin, obt, obf, ont, onf, wrapI, owu, ow8, ow32, otd, oe0, oe1, oe2, oe3, oe4, oe5, oe6, otn, ot1, ot2, ot4]); first | done | rfl)); first | apply zk | (apply zn; (focus rfl); try (focus (first | rfl | (simp; done)))) | (apply zo; (focus rfl)) | apply gv_u | apply gv_tt | apply gv_ff | apply gv_ft | apply gv_tf | (apply gv_split <;> intro hc <;> try simp only [decide_eq_true_eq, decide_eq_false_iff_not, beq_iff_eq, beq_eq_false_iff_ne, bne_iff_ne, bne_eq_false_iff_eq, Bool.not_true, Bool.not_false, ne_eq] at hc) | exact (prefix1_runs hl hw))
 | (simp (disch := omega) only [thenQ_normal, thenQ_exit, thenQ_ret, blockQ_normal, blockQ_ret, blockQ_exit_same, blockQ_exit_ne]))
def tdO (l : List UInt8) (lo : Bool) (i : Nat) : AObj := .cells [sv l, .int .i64 (i : Nat), .bool lo] 62
theorem dec_32 {l : List UInt8} {i : Nat} (hi : i < l.length) : (l[i] = 32 → Utf8.decode ⟨l.toArray⟩ i = (32, 1)) ∧ (¬ l[i] = 32 → ¬ (Utf8.decode ⟨l.toArray⟩ i).1 = 32) := by
  have hg : ByteArray.get! ⟨l.toArray⟩ (i + 0) = l[i] := by
    simp only [ByteArray.get!, Nat.add_zero]
    rw [getElem!_pos _ _ (by simpa using hi)]; simp
  constructor
  · intro h32
    unfold Utf8.decode
    simp only [hg, h32]
    rfl
  · intro h32
    have h32' : ¬ l[i].toNat = 32 := fun q => h32 (UInt8.toNat_inj.1 (by rw [q]; rfl))
    unfold Utf8.decode
    simp only [hg]
    split
    · exact h32'
    · split
      · split
        · simp only; omega
        · simp [Utf8.runeError]
      · split
        · split
          · rename_i hc; simp only [Bool.and_eq_true, decide_eq_true_eq] at hc; simp only; omega
          · simp [Utf8.runeError]
        · split
          · split
            · rename_i hc; simp only [Bool.and_eq_true, decide_eq_true_eq] at hc; simp only; omega
            · simp [Utf8.runeError]
          · simp [Utf8.runeError]
theorem next_some {q pos : Nat} {s : ByteArray} (hq : h[q]? = some (.iter s pos)) (hf : f ≤ q) (hp : pos < s.size) :
    aNext ⟨f, []⟩ h (.pointer (some ⟨q, 0, none⟩)) = some (.tuple #[.bool true, .int .i64 pos, .int .i32 (Utf8.decode s pos).1], h.setIfInBounds q (.iter s (pos + (Utf8.decode s pos).2))) := by
  simp [aNext, hq, hf, hp]
theorem next_none {q pos : Nat} {s : ByteArray} (hq : h[q]? = some (.iter s pos)) (hf : f ≤ q) (hp : ¬ pos < s.size) :
    aNext ⟨f, []⟩ h (.pointer (some ⟨q, 0, none⟩)) = some (.tuple #[.bool false], h) := by
  simp [aNext, hq, hf, hp]
theorem tblanks_R {p : Nat} {l : List UInt8} {lo : Bool} {i : Nat} (hp : h[p]? = some (tdO l lo i)) (hf : f ≤ p) (hfs : f ≤ h.size) (hl : l.length ≤ 900000) (hi : i ≤ l.length) :
    callR X ⟨f, []⟩ 109 [ptr p] h fun v h' => v = .tuple #[] ∧ h'[p]? = some (tdO l lo (sk lo l i)) ∧ KeepB h h' (some p) := by
  have hlt := lt_of hp
  have c0 := cellsAt_of hp
  refine callR_of rfl f109_is ?_
  simp only [f109b, f109r0]
  repeat' (first
 | refine za ?_ | refine zb ?_ | refine zc ?_ | refine zd ?_ | refine ze ?_ | refine zf ?_ | refine zg ?_ | refine zh ?_ | (refine zi ?_; try refine RgD_plain rfl ?_) | refine w_drawn rfl ?_ | refine zj ?_ | refine zl ?_
 | ((first | apply zs | (apply zt; (focus rfl)) | (apply zu; (focus rfl)) | (apply zv; (focus rfl)) | apply zx | apply zy | apply zB | apply zC | apply zD | apply zE | apply zF); (focus ((conv => lhs; simp (disch := omega) [-env0_get, bound, List.getElem?_cons_zero, List.getElem?_cons_succ, odt, odf, oip, oin, obt, obf, ont, onf, wrapI, owu, ow8, ow32, otd, oe0, oe1, oe2, oe3, oe4, oe5, oe6, otn, ot1, ot2, ot4, c0]); first | done | rfl)); first | apply zk | (apply zn; (focus rfl); try (focus (first | rfl | (simp [c0]; done)))) | (apply zo; (focus rfl)) | apply gv_u | apply gv_tt | apply gv_ff | apply gv_ft | apply gv_tf | (apply gv_split <;> intro hc <;> try simp only [decide_eq_true_eq, decide_eq_false_iff_not, beq_iff_eq, beq_eq_false_iff_ne, bne_iff_ne, bne_eq_false_iff_eq, Bool.not_true, Bool.not_false, ne_eq] at hc))
 | (simp (disch := omega) only [thenQ_normal, thenQ_exit, thenQ_ret, blockQ_normal, blockQ_ret, blockQ_exit_same, blockQ_exit_ne]))
  refine w_loop (A := Nat × Heap) (fun a env h' => h' = a.2 ∧ env 0 = ptr p ∧ env 13 = ptr h.size ∧ i + a.1 ≤ l.length ∧ h'[p]? = some (tdO l lo (i + a.1)) ∧ h'[h.size]? = some (.iter ⟨(l.drop i).toArray⟩ a.1) ∧ KeepB h h' (some p) ∧ sk lo l (i + a.1) = sk lo l i) (fun a => l.length - a.1) (a0 := (0, _)) ⟨rfl, by simp, by simp, by simpa using hi, by simp only; rw [Array.getElem?_push, if_neg (by omega)]; exact hp, by simp, (KeepB.refl h _).push _, rfl⟩ ?_
  rintro ⟨j, h1⟩ env h2 ⟨hh, e0, e13, hj, p1, q1, k1, hs⟩
  simp only at hh hj p1 q1 hs
  subst hh
  have hsz := k1.1
  have hql := lt_of q1
  have c1 := cellsAt_of p1
  simp only [f109l5, f109r1, f109r2, f109r3, f109r4]
  by_cases hend : i + j < l.length
  · have hjd : j < (l.drop i).length := by simp; omega
    obtain ⟨d1, d2⟩ := dec_32 hjd
    have hge : (l.drop i)[j] = l[i + j] := by simp
    have hn := next_some (f := f) q1 (by omega) (by simpa using hjd)
    have kk : ∀ x, KeepB h (h2.setIfInBounds h.size x) (some p) := fun x => k1.set _ (.inl (Nat.le_refl _))
    have p2 : ∀ x, (h2.setIfInBounds h.size x)[p]? = some (tdO l lo (i + j)) := fun x => by rw [Array.getElem?_setIfInBounds, if_neg (by omega)]; exact p1
    have c2 : ∀ x, Heap.cellsAt (h2.setIfInBounds h.size x) p = some [sv l, .int .i64 ((i + j : Nat) : Int), .bool lo] := fun x => cellsAt_of (p2 x)
    cases lo with
    | false =>
      repeat' (first
 | refine za ?_ | refine zb ?_ | refine zc ?_ | refine zd ?_ | refine ze ?_ | refine zf ?_ | refine zg ?_ | refine zh ?_ | (refine zi ?_; try refine RgD_plain rfl ?_) | refine w_drawn rfl ?_ | refine zj ?_ | refine zl ?_
 | ((first | apply zs | (apply zt; (focus rfl)) | (apply zu; (focus rfl)) | (apply zv; (focus rfl)) | apply zx | apply zy | apply zB | apply zC | apply zD | apply zE | apply zF); (focus ((conv => lhs; simp (disch := omega) [-env0_get, bound, List.getElem?_cons_zero, List.getElem?_cons_succ, odt, odf, oip, oin, obt, obf, ont, onf, wrapI, owu, ow8, ow32, otd, oe0, oe1, oe2, oe3, oe4, oe5, oe6, otn, ot1, ot2, ot4, e0, e13, hn, c2]); first | done | rfl)); first | apply zk | (apply zn; (focus rfl); try (focus (first | rfl | (simp [e0, e13, hn, c2]; done)))) | (apply zo; (focus rfl)) | apply gv_u | apply gv_tt | apply gv_ff | apply gv_ft | apply gv_tf | (apply gv_split <;> intro hc <;> try simp only [decide_eq_true_eq, decide_eq_false_iff_not, beq_iff_eq, beq_eq_false_iff_ne, bne_iff_ne, bne_eq_false_iff_eq, Bool.not_true, Bool.not_false, ne_eq] at hc))
 | (simp (disch := omega) only [thenQ_normal, thenQ_exit, thenQ_ret, blockQ_normal, blockQ_ret, blockQ_exit_same, blockQ_exit_ne]))
      exact ⟨rfl, by rw [p2, ← hs]; rfl, kk _⟩
    | true =>
      by_cases h32 : l[i + j] = 32
      · have hd := d1 (by rw [hge]; exact h32)
        rw [hd] at hn
        repeat' (first
 | refine za ?_ | refine zb ?_ | refine zc ?_ | refine zd ?_ | refine ze ?_ | refine zf ?_ | refine zg ?_ | refine zh ?_ | (refine zi ?_; try refine RgD_plain rfl ?_) | refine w_drawn rfl ?_ | refine zj ?_ | refine zl ?_
 | ((first | apply zs | (apply zt; (focus rfl)) | (apply zu; (focus rfl)) | (apply zv; (focus rfl)) | apply zx | apply zy | apply zB | apply zC | apply zD | apply zE | apply zF); (focus ((conv => lhs; simp (disch := omega) [-env0_get, bound, List.getElem?_cons_zero, List.getElem?_cons_succ, odt, odf, oip, oin, obt, obf, ont, onf, wrapI, owu, ow8, ow32, otd, oe0, oe1, oe2, oe3, oe4, oe5, oe6, otn, ot1, ot2, ot4, e0, e13, hn, c2, wr_def (p2 _)]); first | done | rfl)); first | apply zk | (apply zn; (focus rfl); try (focus (first | rfl | (simp [e0, e13, hn, c2, wr_def (p2 _)]; done)))) | (apply zo; (focus rfl)) | apply gv_u | apply gv_tt | apply gv_ff | apply gv_ft | apply gv_tf | (apply gv_split <;> intro hc <;> try simp only [decide_eq_true_eq, decide_eq_false_iff_not, beq_iff_eq, beq_eq_false_iff_ne, bne_iff_ne, bne_eq_false_iff_eq, Bool.not_true, Bool.not_false, ne_eq] at hc))
 | (simp (disch := omega) only [thenQ_normal, thenQ_exit, thenQ_ret, blockQ_normal, blockQ_ret, blockQ_exit_same, blockQ_exit_ne]))
        refine ⟨(j + 1, _), ⟨rfl, by simp [e0], by simp [e13], by simp only; omega, ?_, ?_, (kk _).set _ (.inr rfl), ?_⟩, by simp only; omega⟩
        · rw [Array.getElem?_setIfInBounds, if_pos rfl, if_pos (by simp; omega)]; simp [tdO]; omega
        · rw [Array.getElem?_setIfInBounds, if_neg (by omega), Array.getElem?_setIfInBounds, if_pos rfl, if_pos hql]
        · rw [← hs]; simp only [sk, if_true]; rw [skip_step l (i + j) hend, if_pos h32]; rfl
      · have hd := d2 (by rw [hge]; exact h32)
        have hd' : ¬ ((Utf8.decode ⟨(l.drop i).toArray⟩ j).1 : Int) = 32 := by omega
        repeat' (first
 | refine za ?_ | refine zb ?_ | refine zc ?_ | refine zd ?_ | refine ze ?_ | refine zf ?_ | refine zg ?_ | refine zh ?_ | (refine zi ?_; try refine RgD_plain rfl ?_) | refine w_drawn rfl ?_ | refine zj ?_ | refine zl ?_
 | ((first | apply zs | (apply zt; (focus rfl)) | (apply zu; (focus rfl)) | (apply zv; (focus rfl)) | apply zx | apply zy | apply zB | apply zC | apply zD | apply zE | apply zF); (focus ((conv => lhs; simp (disch := omega) [-env0_get, bound, List.getElem?_cons_zero, List.getElem?_cons_succ, odt, odf, oip, oin, obt, obf, ont, onf, wrapI, owu, ow8, ow32, otd, oe0, oe1, oe2, oe3, oe4, oe5, oe6, otn, ot1, ot2, ot4, e0, e13, hn, c2]); first | done | rfl)); first | apply zk | (apply zn; (focus rfl); try (focus (first | rfl | (simp [e0, e13, hn, c2]; done)))) | (apply zo; (focus rfl)) | apply gv_u | apply gv_tt | apply gv_ff | apply gv_ft | apply gv_tf | (apply gv_split <;> intro hc <;> try simp only [decide_eq_true_eq, decide_eq_false_iff_not, beq_iff_eq, beq_eq_false_iff_ne, bne_iff_ne, bne_eq_false_iff_eq, Bool.not_true, Bool.not_false, ne_eq] at hc))
 | (simp (disch := omega) only [thenQ_normal, thenQ_exit, thenQ_ret, blockQ_normal, blockQ_ret, blockQ_exit_same, blockQ_exit_ne]))
        refine ⟨rfl, ?_, kk _⟩
        rw [p2, ← hs]; simp only [sk, if_true]; rw [skip_step l (i + j) hend, if_neg h32]
  · have hn := next_none (f := f) q1 (by omega) (by simp; omega)
    repeat' (first
 | refine za ?_ | refine zb ?_ | refine zc ?_ | refine zd ?_ | refine ze ?_ | refine zf ?_ | refine zg ?_ | refine zh ?_ | (refine zi ?_; try refine RgD_plain rfl ?_) | refine w_drawn rfl ?_ | refine zj ?_ | refine zl ?_
 | ((first | apply zs | (apply zt; (focus rfl)) | (apply zu; (focus rfl)) | (apply zv; (focus rfl)) | apply zx | apply zy | apply zB | apply zC | apply zD | apply zE | apply zF); (focus ((conv => lhs; simp (disch := omega) [-env0_get, bound, List.getElem?_cons_zero, List.getElem?_cons_succ, odt, odf, oip, oin, obt, obf, ont, onf, wrapI, owu, ow8, ow32, otd, oe0, oe1, oe2, oe3, oe4, oe5, oe6, otn, ot1, ot2, ot4, e0, e13, hn]); first | done | rfl)); first | apply zk | (apply zn; (focus rfl); try (focus (first | rfl | (simp [e0, e13, hn]; done)))) | (apply zo; (focus rfl)) | apply gv_u | apply gv_tt | apply gv_ff | apply gv_ft | apply gv_tf | (apply gv_split <;> intro hc <;> try simp only [decide_eq_true_eq, decide_eq_false_iff_not, beq_iff_eq, beq_eq_false_iff_ne, bne_iff_ne, bne_eq_false_iff_eq, Bool.not_true, Bool.not_false, ne_eq] at hc))
 | (simp (disch := omega) only [thenQ_normal, thenQ_exit, thenQ_ret, blockQ_normal, blockQ_ret, blockQ_exit_same, blockQ_exit_ne]))
    refine ⟨rfl, ?_, k1⟩
    rw [p1, ← hs]; unfold sk; split
    · rw [skip_end l (i + j) (by omega)]
    · rfl
theorem readD_ok (lo : Bool) (l : List UInt8) (low high : Int × Int) (i j : Nat) (hi : i ≤ l.length) (hj : j ≤ l.length) : (readD lo l low high i j).2.1 ≤ l.length ∧ ((readD lo l low high i j).2.2 ≠ 0 → (readD lo l low high i j).1 = sp0) ∧ ((readD lo l low high i j).2.2 = 0 → 1 ≤ (readD lo l low high i j).2.1) := by
  unfold readD
  by_cases hb : (lo && isAt l j [93]) = false ∧ isAt l j [41] = false
  · rw [if_pos hb]; exact ⟨hj, fun _ => rfl, fun q => by simp [badN] at q⟩
  · rw [if_neg hb]
    have hlt : j + 1 ≤ l.length := by
      cases h41 : isAt l j [41]
      · cases h93 : (lo && isAt l j [93])
        · exact absurd ⟨h93, h41⟩ hb
        · simp at h93; have := isAt_len h93.2 (by simp); simpa using this
      · have := isAt_len h41 (by simp); simpa using this
    generalize (if high.1 = 1 ∧ (lo && isAt l j [93]) = true then (2 : Int) else high.1) = k
    split
    · exact ⟨hlt, fun q => absurd rfl q, fun _ => by simp⟩
    · rename_i hz; exact ⟨hi, fun _ => rfl, fun q => absurd q hz⟩
theorem readC_ok (lo : Bool) (l : List UInt8) (low : Int × Int) (i : Nat) (hi : i ≤ l.length) : (readC lo l low i).2.1 ≤ l.length ∧ ((readC lo l low i).2.2 ≠ 0 → (readC lo l low i).1 = sp0) ∧ ((readC lo l low i).2.2 = 0 → 1 ≤ (readC lo l low i).2.1) := by
  unfold readC
  have he := (endN_ok (lo := lo) (w := pinf) hi rfl).2.2
  split
  · exact ⟨hi, fun _ => rfl, fun q => by simp [badN] at q⟩
  · rename_i j hj; exact readD_ok lo l low _ i _ hi (sk_le (he j hj))
theorem readB_ok (lo : Bool) (l : List UInt8) (low : Int × Int) (i : Nat) (hi : i ≤ l.length) : (readB lo l low i).2.1 ≤ l.length ∧ ((readB lo l low i).2.2 ≠ 0 → (readB lo l low i).1 = sp0) ∧ ((readB lo l low i).2.2 = 0 → 1 ≤ (readB lo l low i).2.1) := by
  unfold readB
  split
  · rename_i h; have := isAt_len h (by simp); simp at this; exact readC_ok lo l low _ (sk_le (by omega))
  · exact ⟨hi, fun _ => rfl, fun q => by simp [badN] at q⟩
theorem readN_ok (lo : Bool) (l : List UInt8) : (readN lo l).2.1 ≤ l.length ∧ ((readN lo l).2.2 ≠ 0 → (readN lo l).1 = sp0) ∧ ((readN lo l).2.2 = 0 → 1 ≤ (readN lo l).2.1) := by
  unfold readN
  by_cases hb : isAt l 0 [40] = false ∧ isAt l 0 [91] = false
  · rw [if_pos hb]; exact ⟨Nat.zero_le _, fun _ => rfl, fun q => by simp [badN] at q⟩
  · rw [if_neg hb]
    have h1 : 1 ≤ l.length := by
      cases h40 : isAt l 0 [40]
      · cases h91 : isAt l 0 [91]
        · exact absurd ⟨h40, h91⟩ hb
        · have := isAt_len h91 (by simp); simpa using this
      · have := isAt_len h40 (by simp); simpa using this
    have hi := sk_le (lo := lo) h1
    have he := (endN_ok (lo := lo) (w := minf) hi rfl).2.2
    unfold readA
    split
    · exact ⟨hi, fun _ => rfl, fun q => by simp [badN] at q⟩
    · split
      · exact ⟨hi, fun _ => rfl, fun q => by simp [badN] at q⟩
      · rename_i j hj; exact readB_ok lo l _ _ (sk_le (he j hj))
def sg0 : Sg := ⟨sp0, 0⟩
def oneN (nums lo : Bool) (l : List UInt8) (i : Nat) : Sg × Nat × Int :=
  if (readN lo (l.drop i)).2.2 ≠ 0 ∨ nums = false then (⟨(readN lo (l.drop i)).1, 0⟩, i + (readN lo (l.drop i)).2.1, (readN lo (l.drop i)).2.2) else
  if isAt l (sk lo l (i + (readN lo (l.drop i)).2.1)) [61, 62] = false then (sg0, sk lo l (i + (readN lo (l.drop i)).2.1), 180) else
  if (satRead (l.drop (sk lo l (sk lo l (i + (readN lo (l.drop i)).2.1) + 2)))).2 = 0 then (sg0, sk lo l (sk lo l (i + (readN lo (l.drop i)).2.1) + 2), 180) else
  (⟨(readN lo (l.drop i)).1, (satRead (l.drop (sk lo l (sk lo l (i + (readN lo (l.drop i)).2.1) + 2)))).1⟩, sk lo l (sk lo l (i + (readN lo (l.drop i)).2.1) + 2) + (satRead (l.drop (sk lo l (sk lo l (i + (readN lo (l.drop i)).2.1) + 2)))).2, 0)
theorem tspan_R {p : Nat} {l : List UInt8} {lo : Bool} {i : Nat} (hp : h[p]? = some (tdO l lo i)) (hf : f ≤ p) (hfs : f ≤ h.size) (hl : l.length ≤ 900000) (hi : i ≤ l.length) :
    callR X ⟨f, []⟩ 78 [ptr p] h fun v h' => v = .tuple #[spV (readN lo (l.drop i)).1, .int .i64 (readN lo (l.drop i)).2.2] ∧ h'[p]? = some (tdO l lo (i + (readN lo (l.drop i)).2.1)) ∧ KeepB h h' (some p) := by
  have hlt := lt_of hp
  have c0 := cellsAt_of hp
  have hok := (readN_ok lo (l.drop i)).1
  simp at hok
  have hdl : (l.drop i).length ≤ 900000 := by simp; omega
  refine callR_of rfl f78_is ?_
  simp only [f78r0, f78r1, f78r2, f78r3, f78r4, f78r5, f78r6, f78b]
  cases lo with
  | false =>
    have hr := fun h' => bRead_runs (f := f) (h := h') hdl
    simp only [readP_eq] at hr
    repeat' (first
 | refine za ?_ | refine zb ?_ | refine zc ?_ | refine zd ?_ | refine ze ?_ | refine zf ?_ | refine zg ?_ | refine zh ?_ | (refine zi ?_; try refine RgD_plain rfl ?_) | refine w_drawn rfl ?_ | refine zj ?_ | refine zl ?_
 | ((first | apply zs | (apply zt; (focus rfl)) | (apply zu; (focus rfl)) | (apply zv; (focus rfl)) | apply zw | apply zx | apply zy | apply zB | apply zC | apply zD | apply zE | apply zF); (focus ((conv => lhs; simp (disch := omega) [-env0_get, bound, List.getElem?_cons_zero, List.getElem?_cons_succ, odt, odf, oip, oin, obt, obf, ont, onf, wrapI, owu, ow8, ow32, otd, oe0, oe1, oe2, oe3, oe4, oe5, oe6, otn, ot1, ot2, ot4, c0, wr_def hp]); first | done | rfl)); first | apply zk | (apply zn; (focus rfl); try (focus (first | rfl | (simp [c0, wr_def hp]; done)))) | (apply zo; (focus rfl)) | apply gv_u | apply gv_tt | apply gv_ff | apply gv_ft | apply gv_tf | (apply gv_split <;> intro hc <;> try simp only [decide_eq_true_eq, decide_eq_false_iff_not, beq_iff_eq, beq_eq_false_iff_ne, bne_iff_ne, bne_eq_false_iff_eq, Bool.not_true, Bool.not_false, ne_eq] at hc) | exact (hr _))
 | (simp (disch := omega) only [thenQ_normal, thenQ_exit, thenQ_ret, blockQ_normal, blockQ_ret, blockQ_exit_same, blockQ_exit_ne]))
    exact ⟨rfl, by rw [Array.getElem?_push, Array.getElem?_push, if_neg (by simp; omega), if_neg (by simp; omega), Array.getElem?_setIfInBounds, if_pos rfl, if_pos hlt]; simp [tdO], ((KeepB.refl h (some p)).set _ (.inr rfl) |>.push _ |>.push _)⟩
  | true =>
    have hr := fun h' => bLoose_runs (f := f) (h := h') hdl
    simp only [looseP_eq] at hr
    repeat' (first
 | refine za ?_ | refine zb ?_ | refine zc ?_ | refine zd ?_ | refine ze ?_ | refine zf ?_ | refine zg ?_ | refine zh ?_ | (refine zi ?_; try refine RgD_plain rfl ?_) | refine w_drawn rfl ?_ | refine zj ?_ | refine zl ?_
 | ((first | apply zs | (apply zt; (focus rfl)) | (apply zu; (focus rfl)) | (apply zv; (focus rfl)) | apply zw | apply zx | apply zy | apply zB | apply zC | apply zD | apply zE | apply zF); (focus ((conv => lhs; simp (disch := omega) [-env0_get, bound, List.getElem?_cons_zero, List.getElem?_cons_succ, odt, odf, oip, oin, obt, obf, ont, onf, wrapI, owu, ow8, ow32, otd, oe0, oe1, oe2, oe3, oe4, oe5, oe6, otn, ot1, ot2, ot4, c0, wr_def hp]); first | done | rfl)); first | apply zk | (apply zn; (focus rfl); try (focus (first | rfl | (simp [c0, wr_def hp]; done)))) | (apply zo; (focus rfl)) | apply gv_u | apply gv_tt | apply gv_ff | apply gv_ft | apply gv_tf | (apply gv_split <;> intro hc <;> try simp only [decide_eq_true_eq, decide_eq_false_iff_not, beq_iff_eq, beq_eq_false_iff_ne, bne_iff_ne, bne_eq_false_iff_eq, Bool.not_true, Bool.not_false, ne_eq] at hc) | exact (hr _))
 | (simp (disch := omega) only [thenQ_normal, thenQ_exit, thenQ_ret, blockQ_normal, blockQ_ret, blockQ_exit_same, blockQ_exit_ne]))
    exact ⟨rfl, by rw [Array.getElem?_push, Array.getElem?_push, if_neg (by simp; omega), if_neg (by simp; omega), Array.getElem?_setIfInBounds, if_pos rfl, if_pos hlt]; simp [tdO], ((KeepB.refl h (some p)).set _ (.inr rfl) |>.push _ |>.push _)⟩
theorem tsign_R {p : Nat} {l w : List UInt8} {lo : Bool} {i : Nat} (hp : h[p]? = some (tdO l lo i)) (hf : f ≤ p) (hfs : f ≤ h.size) (hl : l.length ≤ 900000) (hi : i ≤ l.length) (hw : w.length ≤ 1000) (hw0 : 0 < w.length) :
    callR X ⟨f, []⟩ 110 [ptr p, sv w] h fun v h' => v = .int .i64 (if isAt l (sk lo l i) w = true then 0 else 180) ∧ h'[p]? = some (tdO l lo (if isAt l (sk lo l i) w = true then sk lo l i + w.length else sk lo l i)) ∧ KeepB h h' (some p) := by
  refine callR_of rfl f110_is ?_
  simp only [f110r0, f110r1, f110r2, f110r3, f110r4, f110r5, f110b]
  repeat' (first
 | refine za ?_ | refine zb ?_ | refine zc ?_ | refine zd ?_ | refine ze ?_ | refine zf ?_ | refine zg ?_ | refine zh ?_ | (refine zi ?_; try refine RgD_plain rfl ?_) | refine w_drawn rfl ?_ | refine zj ?_ | refine zl ?_
 | ((first | apply zs | (apply zt; (focus rfl)) | (apply zu; (focus rfl)) | (apply zv; (focus rfl)) | apply zx | apply zy | apply zB | apply zC | apply zD | apply zE | apply zF); (focus ((conv => lhs; simp (disch := omega) [-env0_get, bound, List.getElem?_cons_zero, List.getElem?_cons_succ, odt, odf, oip, oin, obt, obf, ont, onf, wrapI, owu, ow8, ow32, otd, oe0, oe1, oe2, oe3, oe4, oe5, oe6, otn, ot1, ot2, ot4]); first | done | rfl)); first | apply zk | (apply zn; (focus rfl); try (focus (first | rfl | (simp; done)))) | (apply zo; (focus rfl)) | apply gv_u | apply gv_tt | apply gv_ff | apply gv_ft | apply gv_tf | (apply gv_split <;> intro hc <;> try simp only [decide_eq_true_eq, decide_eq_false_iff_not, beq_iff_eq, beq_eq_false_iff_ne, bne_iff_ne, bne_eq_false_iff_eq, Bool.not_true, Bool.not_false, ne_eq] at hc))
 | (simp (disch := omega) only [thenQ_normal, thenQ_exit, thenQ_ret, blockQ_normal, blockQ_ret, blockQ_exit_same, blockQ_exit_ne]))
  (apply zW; (focus ((conv => lhs; simp (disch := omega) [-env0_get, bound, List.getElem?_cons_zero, List.getElem?_cons_succ, odt, odf, oip, oin, obt, obf, ont, onf, wrapI, owu, ow8, ow32, otd, oe0, oe1, oe2, oe3, oe4, oe5, oe6, otn, ot1, ot2, ot4]); first | done | rfl)); (focus exact (tblanks_R hp hf hfs hl hi))); intro v1 h1 q1
  obtain ⟨rfl, p1, k1⟩ := q1
  have hj := sk_le (lo := lo) hi
  generalize sk lo l i = j at *
  have hlt := lt_of p1
  have c1 := cellsAt_of p1
  by_cases hw2 : isAt l j w = true
  · have hd : (l.drop j).take w.length = w := of_decide_eq_true hw2
    have hle := isAt_len hw2 hw0
    simp only [if_pos hw2]
    repeat' (first
 | refine za ?_ | refine zb ?_ | refine zc ?_ | refine zd ?_ | refine ze ?_ | refine zf ?_ | refine zg ?_ | refine zh ?_ | (refine zi ?_; try refine RgD_plain rfl ?_) | refine w_drawn rfl ?_ | refine zj ?_ | refine zl ?_
 | ((first | apply zs | (apply zt; (focus rfl)) | (apply zu; (focus rfl)) | (apply zv; (focus rfl)) | apply zw | apply zx | apply zy | apply zB | apply zC | apply zD | apply zE | apply zF); (focus ((conv => lhs; simp (disch := omega) [-env0_get, bound, List.getElem?_cons_zero, List.getElem?_cons_succ, odt, odf, oip, oin, obt, obf, ont, onf, wrapI, owu, ow8, ow32, otd, oe0, oe1, oe2, oe3, oe4, oe5, oe6, otn, ot1, ot2, ot4, c1, hd, wr_def p1]); first | done | rfl)); first | apply zk | (apply zn; (focus rfl); try (focus (first | rfl | (simp [c1, hd, wr_def p1]; done)))) | (apply zo; (focus rfl)) | apply gv_u | apply gv_tt | apply gv_ff | apply gv_ft | apply gv_tf | (apply gv_split <;> intro hc <;> try simp only [decide_eq_true_eq, decide_eq_false_iff_not, beq_iff_eq, beq_eq_false_iff_ne, bne_iff_ne, bne_eq_false_iff_eq, Bool.not_true, Bool.not_false, ne_eq] at hc) | exact (prefix_runs (by simp; omega) hw))
 | (simp (disch := omega) only [thenQ_normal, thenQ_exit, thenQ_ret, blockQ_normal, blockQ_ret, blockQ_exit_same, blockQ_exit_ne]))
    exact ⟨rfl, by rw [Array.getElem?_setIfInBounds, if_pos rfl, if_pos hlt]; simp [tdO], k1.set _ (.inr rfl)⟩
  · have hd : ¬ (l.drop j).take w.length = w := fun q => hw2 (decide_eq_true q)
    simp only [if_neg hw2]
    repeat' (first
 | refine za ?_ | refine zb ?_ | refine zc ?_ | refine zd ?_ | refine ze ?_ | refine zf ?_ | refine zg ?_ | refine zh ?_ | (refine zi ?_; try refine RgD_plain rfl ?_) | refine w_drawn rfl ?_ | refine zj ?_ | refine zl ?_
 | ((first | apply zs | (apply zt; (focus rfl)) | (apply zu; (focus rfl)) | (apply zv; (focus rfl)) | apply zw | apply zx | apply zy | apply zB | apply zC | apply zD | apply zE | apply zF); (focus ((conv => lhs; simp (disch := omega) [-env0_get, bound, List.getElem?_cons_zero, List.getElem?_cons_succ, odt, odf, oip, oin, obt, obf, ont, onf, wrapI, owu, ow8, ow32, otd, oe0, oe1, oe2, oe3, oe4, oe5, oe6, otn, ot1, ot2, ot4, c1, hd, wr_def p1]); first | done | rfl)); first | apply zk | (apply zn; (focus rfl); try (focus (first | rfl | (simp [c1, hd, wr_def p1]; done)))) | (apply zo; (focus rfl)) | apply gv_u | apply gv_tt | apply gv_ff | apply gv_ft | apply gv_tf | (apply gv_split <;> intro hc <;> try simp only [decide_eq_true_eq, decide_eq_false_iff_not, beq_iff_eq, beq_eq_false_iff_ne, bne_iff_ne, bne_eq_false_iff_eq, Bool.not_true, Bool.not_false, ne_eq] at hc) | exact (prefix_runs (by simp; omega) hw))
 | (simp (disch := omega) only [thenQ_normal, thenQ_exit, thenQ_ret, blockQ_normal, blockQ_ret, blockQ_exit_same, blockQ_exit_ne]))
    exact ⟨rfl, p1, k1⟩
end Go.Proofs.Ytlgbeekhaoiggaa
end

section
namespace Go.Proofs.Ytlgbeekhaoiggaa
open Go.AM
set_option maxHeartbeats 4000000
variable {f : Nat} {h : Heap}
abbrev sgV (x : Sg) : Value := .agg #[.int .i64 x.s.a, .int .i64 x.s.b, .int .i64 x.s.c, .int .i64 x.s.d, .int .i64 x.v]
theorem tseg_R {p : Nat} {l : List UInt8} {lo : Bool} {i : Nat} (hp : h[p]? = some (tdO l lo i)) (hf : f ≤ p) (hfs : f ≤ h.size) (hl : l.length ≤ 900000) (hi : i ≤ l.length) :
    callR X ⟨f, []⟩ 85 [ptr p] h fun v h' => v = .tuple #[sgV (oneN true lo l i).1, .int .i64 (oneN true lo l i).2.2] ∧ h'[p]? = some (tdO l lo (oneN true lo l i).2.1) ∧ KeepB h h' (some p) := by
  have hpl := lt_of hp
  obtain ⟨hok, herr, _⟩ := readN_ok lo (l.drop i)
  simp at hok
  refine callR_of rfl f85_is ?_
  simp only [f85r0, f85r1, f85r2, f85r3, f85r4, f85r5, f85r6, f85r7, f85r8, f85r9, f85r10, f85r11, f85b]
  unfold oneN
  rcases hr : readN lo (l.drop i) with ⟨x, n, e⟩
  rw [hr] at hok herr
  simp only at hok herr ⊢
  have hp1 : (h.push (.cells [.int .i64 0, .int .i64 0, .int .i64 0, .int .i64 0, .int .i64 0] 57))[p]? = some (tdO l lo i) := by rw [Array.getElem?_push, if_neg (by omega)]; exact hp
  repeat' (first
 | refine za ?_ | refine zb ?_ | refine zc ?_ | refine zd ?_ | refine ze ?_ | refine zf ?_ | refine zg ?_ | refine zh ?_ | (refine zi ?_; try refine RgD_plain rfl ?_) | refine w_drawn rfl ?_ | refine zj ?_ | refine zl ?_
 | ((first | apply zs | (apply zt; (focus rfl)) | (apply zu; (focus rfl)) | (apply zv; (focus rfl)) | apply zx | apply zy | apply zB | apply zC | apply zD | apply zE | apply zF); (focus ((conv => lhs; simp (disch := omega) [-env0_get, bound, List.getElem?_cons_zero, List.getElem?_cons_succ, odt, odf, oip, oin, obt, obf, ont, onf, wrapI, owu, ow8, ow32, otd, oe0, oe1, oe2, oe3, oe4, oe5, oe6, otn, ot1, ot2, ot4]); first | done | rfl)); first | apply zk | (apply zn; (focus rfl); try (focus (first | rfl | (simp; done)))) | (apply zo; (focus rfl)) | apply gv_u | apply gv_tt | apply gv_ff | apply gv_ft | apply gv_tf | (apply gv_split <;> intro hc <;> try simp only [decide_eq_true_eq, decide_eq_false_iff_not, beq_iff_eq, beq_eq_false_iff_ne, bne_iff_ne, bne_eq_false_iff_eq, Bool.not_true, Bool.not_false, ne_eq] at hc))
 | (simp (disch := omega) only [thenQ_normal, thenQ_exit, thenQ_ret, blockQ_normal, blockQ_ret, blockQ_exit_same, blockQ_exit_ne]))
  (apply zW; (focus ((conv => lhs; simp (disch := omega) [-env0_get, bound, List.getElem?_cons_zero, List.getElem?_cons_succ, odt, odf, oip, oin, obt, obf, ont, onf, wrapI, owu, ow8, ow32, otd, oe0, oe1, oe2, oe3, oe4, oe5, oe6, otn, ot1, ot2, ot4]); first | done | rfl)); (focus exact (tspan_R hp1 hf (by simp; omega) hl hi))); intro v1 h1 q1
  rw [hr] at q1
  obtain ⟨rfl, p1, k1⟩ := q1
  have hs1 := k1.1
  simp at hs1
  have x1 : h1[h.size]? = some (.cells [.int .i64 0, .int .i64 0, .int .i64 0, .int .i64 0, .int .i64 0] 57) := by rw [k1.2 _ (by simp) (by simp; omega)]; simp
  have K1 : KeepB h h1 (some p) := ((KeepB.refl h _).push _).trans k1
  clear k1
  by_cases he : e = 0
  · subst he
    simp only [ne_eq, not_true_eq_false, Bool.true_eq_false, or_self, if_false]
    have hj : i + n ≤ l.length := by omega
    generalize hi' : i + n = j at *
    repeat' (first
 | refine za ?_ | refine zb ?_ | refine zc ?_ | refine zd ?_ | refine ze ?_ | refine zf ?_ | refine zg ?_ | refine zh ?_ | (refine zi ?_; try refine RgD_plain rfl ?_) | refine w_drawn rfl ?_ | refine zj ?_ | refine zl ?_
 | ((first | apply zs | (apply zt; (focus rfl)) | (apply zu; (focus rfl)) | (apply zv; (focus rfl)) | apply zx | apply zy | apply zB | apply zC | apply zD | apply zE | apply zF); (focus ((conv => lhs; simp (disch := omega) [-env0_get, bound, List.getElem?_cons_zero, List.getElem?_cons_succ, odt, odf, oip, oin, obt, obf, ont, onf, wrapI, owu, ow8, ow32, otd, oe0, oe1, oe2, oe3, oe4, oe5, oe6, otn, ot1, ot2, ot4]); first | done | rfl)); first | apply zk | (apply zn; (focus rfl); try (focus (first | rfl | (simp; done)))) | (apply zo; (focus rfl)) | apply gv_u | apply gv_tt | apply gv_ff | apply gv_ft | apply gv_tf | (apply gv_split <;> intro hc <;> try simp only [decide_eq_true_eq, decide_eq_false_iff_not, beq_iff_eq, beq_eq_false_iff_ne, bne_iff_ne, bne_eq_false_iff_eq, Bool.not_true, Bool.not_false, ne_eq] at hc))
 | (simp (disch := omega) only [thenQ_normal, thenQ_exit, thenQ_ret, blockQ_normal, blockQ_ret, blockQ_exit_same, blockQ_exit_ne]))
    have p1' : (h1.push (.cells [.int .i64 x.a, .int .i64 x.b, .int .i64 x.c, .int .i64 x.d] 46))[p]? = some (tdO l lo j) := by rw [Array.getElem?_push, if_neg (by omega)]; exact p1
    (apply zW; (focus ((conv => lhs; simp (disch := omega) [-env0_get, bound, List.getElem?_cons_zero, List.getElem?_cons_succ, odt, odf, oip, oin, obt, obf, ont, onf, wrapI, owu, ow8, ow32, otd, oe0, oe1, oe2, oe3, oe4, oe5, oe6, otn, ot1, ot2, ot4]); first | done | rfl)); (focus exact (tsign_R (w := [61, 62]) p1' hf (by simp; omega) hl hj (by simp) (by simp)))); intro v2 h2 q2
    obtain ⟨rfl, p2, k2⟩ := q2
    have hs2 := k2.1
    simp at hs2
    have x2 : h2[h.size]? = some (.cells [.int .i64 0, .int .i64 0, .int .i64 0, .int .i64 0, .int .i64 0] 57) := by rw [k2.2 _ (by simp; omega) (by simp; omega), Array.getElem?_push, if_neg (by omega)]; exact x1
    have y2 : h2.cellsAt h1.size = some [.int .i64 x.a, .int .i64 x.b, .int .i64 x.c, .int .i64 x.d] := by rw [k2.cells (by simp) (by simp; omega)]; simp
    have K2 : KeepB h h2 (some p) := (K1.push _).trans k2
    clear k2
    have hj2 := sk_le (lo := lo) hj
    generalize sk lo l j = j2 at *
    cases hA : isAt l j2 [61, 62] with
    | false =>
      rw [hA] at p2
      simp only [Bool.false_eq_true, if_false, if_true] at p2 ⊢
      repeat' (first
 | refine za ?_ | refine zb ?_ | refine zc ?_ | refine zd ?_ | refine ze ?_ | refine zf ?_ | refine zg ?_ | refine zh ?_ | (refine zi ?_; try refine RgD_plain rfl ?_) | refine w_drawn rfl ?_ | refine zj ?_ | refine zl ?_
 | ((first | apply zs | (apply zt; (focus rfl)) | (apply zu; (focus rfl)) | (apply zv; (focus rfl)) | apply zx | apply zy | apply zB | apply zC | apply zD | apply zE | apply zF); (focus ((conv => lhs; simp (disch := omega) [-env0_get, bound, List.getElem?_cons_zero, List.getElem?_cons_succ, odt, odf, oip, oin, obt, obf, ont, onf, wrapI, owu, ow8, ow32, otd, oe0, oe1, oe2, oe3, oe4, oe5, oe6, otn, ot1, ot2, ot4, hA, wr_def x2]); first | done | rfl)); first | apply zk | (apply zn; (focus rfl); try (focus (first | rfl | (simp [hA, wr_def x2]; done)))) | (apply zo; (focus rfl)) | apply gv_u | apply gv_tt | apply gv_ff | apply gv_ft | apply gv_tf | (apply gv_split <;> intro hc <;> try simp only [decide_eq_true_eq, decide_eq_false_iff_not, beq_iff_eq, beq_eq_false_iff_ne, bne_iff_ne, bne_eq_false_iff_eq, Bool.not_true, Bool.not_false, ne_eq] at hc))
 | (simp (disch := omega) only [thenQ_normal, thenQ_exit, thenQ_ret, blockQ_normal, blockQ_ret, blockQ_exit_same, blockQ_exit_ne]))
      exact ⟨rfl, by rw [Array.getElem?_setIfInBounds, if_neg (by omega)]; exact p2, K2.set _ (.inl (Nat.le_refl _))⟩
    | true =>
      rw [hA] at p2
      have hj3 := isAt_len hA (by simp)
      simp at hj3
      simp only [Bool.true_eq_false, if_false, if_true, List.length_cons, List.length_nil] at p2 ⊢
      repeat' (first
 | refine za ?_ | refine zb ?_ | refine zc ?_ | refine zd ?_ | refine ze ?_ | refine zf ?_ | refine zg ?_ | refine zh ?_ | (refine zi ?_; try refine RgD_plain rfl ?_) | refine w_drawn rfl ?_ | refine zj ?_ | refine zl ?_
 | ((first | apply zs | (apply zt; (focus rfl)) | (apply zu; (focus rfl)) | (apply zv; (focus rfl)) | apply zx | apply zy | apply zB | apply zC | apply zD | apply zE | apply zF); (focus ((conv => lhs; simp (disch := omega) [-env0_get, bound, List.getElem?_cons_zero, List.getElem?_cons_succ, odt, odf, oip, oin, obt, obf, ont, onf, wrapI, owu, ow8, ow32, otd, oe0, oe1, oe2, oe3, oe4, oe5, oe6, otn, ot1, ot2, ot4, hA]); first | done | rfl)); first | apply zk | (apply zn; (focus rfl); try (focus (first | rfl | (simp [hA]; done)))) | (apply zo; (focus rfl)) | apply gv_u | apply gv_tt | apply gv_ff | apply gv_ft | apply gv_tf | (apply gv_split <;> intro hc <;> try simp only [decide_eq_true_eq, decide_eq_false_iff_not, beq_iff_eq, beq_eq_false_iff_ne, bne_iff_ne, bne_eq_false_iff_eq, Bool.not_true, Bool.not_false, ne_eq] at hc))
 | (simp (disch := omega) only [thenQ_normal, thenQ_exit, thenQ_ret, blockQ_normal, blockQ_ret, blockQ_exit_same, blockQ_exit_ne]))
      (apply zW; (focus ((conv => lhs; simp (disch := omega) [-env0_get, bound, List.getElem?_cons_zero, List.getElem?_cons_succ, odt, odf, oip, oin, obt, obf, ont, onf, wrapI, owu, ow8, ow32, otd, oe0, oe1, oe2, oe3, oe4, oe5, oe6, otn, ot1, ot2, ot4]); first | done | rfl)); (focus exact (tblanks_R p2 hf (by omega) hl (by omega)))); intro v3 h3 q3
      obtain ⟨rfl, p3, k3⟩ := q3
      have hs3 := k3.1
      have x3 : h3[h.size]? = some (.cells [.int .i64 0, .int .i64 0, .int .i64 0, .int .i64 0, .int .i64 0] 57) := by rw [k3.2 _ (by omega) (by simp; omega)]; exact x2
      have y3 : h3.cellsAt h1.size = some [.int .i64 x.a, .int .i64 x.b, .int .i64 x.c, .int .i64 x.d] := by rw [k3.cells (by omega) (by simp; omega)]; exact y2
      have K3 : KeepB h h3 (some p) := K2.trans k3
      clear k3
      have e4 : sk lo l (j2 + (0 + 1 + 1)) = sk lo l (j2 + 2) := rfl
      rw [e4] at p3
      have hj4 := sk_le (lo := lo) (l := l) (i := j2 + 2) (by omega)
      generalize sk lo l (j2 + 2) = j4 at *
      have hlt3 := lt_of p3
      have c3 := cellsAt_of p3
      have hsl := sat_len (l := l.drop j4)
      simp at hsl
      have x3' : ∀ y, (h3.setIfInBounds p y)[h.size]? = some (.cells [.int .i64 0, .int .i64 0, .int .i64 0, .int .i64 0, .int .i64 0] 57) := fun y => by rw [Array.getElem?_setIfInBounds, if_neg (by omega)]; exact x3
      have nph : ¬ p = h1.size := by omega
      by_cases hz : (satRead (l.drop j4)).2 = 0
      · rw [if_pos hz]
        repeat' (first
 | refine za ?_ | refine zb ?_ | refine zc ?_ | refine zd ?_ | refine ze ?_ | refine zf ?_ | refine zg ?_ | refine zh ?_ | (refine zi ?_; try refine RgD_plain rfl ?_) | refine w_drawn rfl ?_ | refine zj ?_ | refine zl ?_
 | ((first | apply zs | (apply zt; (focus rfl)) | (apply zu; (focus rfl)) | (apply zv; (focus rfl)) | apply zw | apply zx | apply zy | apply zB | apply zC | apply zD | apply zE | apply zF); (focus ((conv => lhs; simp (disch := omega) [-env0_get, bound, List.getElem?_cons_zero, List.getElem?_cons_succ, odt, odf, oip, oin, obt, obf, ont, onf, wrapI, owu, ow8, ow32, otd, oe0, oe1, oe2, oe3, oe4, oe5, oe6, otn, ot1, ot2, ot4, c3, wr_def p3, wr_def (x3' _)]); first | done | rfl)); first | apply zk | (apply zn; (focus rfl); try (focus (first | rfl | (simp [c3, wr_def p3, wr_def (x3' _)]; done)))) | (apply zo; (focus rfl)) | apply gv_u | apply gv_tt | apply gv_ff | apply gv_ft | apply gv_tf | (apply gv_split <;> intro hc <;> try simp only [decide_eq_true_eq, decide_eq_false_iff_not, beq_iff_eq, beq_eq_false_iff_ne, bne_iff_ne, bne_eq_false_iff_eq, Bool.not_true, Bool.not_false, ne_eq] at hc) | exact (satRead_runs (by simp; omega)))
 | (simp (disch := omega) only [thenQ_normal, thenQ_exit, thenQ_ret, blockQ_normal, blockQ_ret, blockQ_exit_same, blockQ_exit_ne]))
        exact ⟨rfl, by rw [Array.getElem?_setIfInBounds, if_neg (by omega), Array.getElem?_setIfInBounds, if_pos rfl, if_pos hlt3]; simp [tdO, hz], (K3.set _ (.inr rfl)).set _ (.inl (Nat.le_refl _))⟩
      · rw [if_neg hz]
        repeat' (first
 | refine za ?_ | refine zb ?_ | refine zc ?_ | refine zd ?_ | refine ze ?_ | refine zf ?_ | refine zg ?_ | refine zh ?_ | (refine zi ?_; try refine RgD_plain rfl ?_) | refine w_drawn rfl ?_ | refine zj ?_ | refine zl ?_
 | ((first | apply zs | (apply zt; (focus rfl)) | (apply zu; (focus rfl)) | (apply zv; (focus rfl)) | apply zw | apply zx | apply zy | apply zB | apply zC | apply zD | apply zE | apply zF); (focus ((conv => lhs; simp (disch := omega) [-env0_get, bound, List.getElem?_cons_zero, List.getElem?_cons_succ, odt, odf, oip, oin, obt, obf, ont, onf, wrapI, owu, ow8, ow32, otd, oe0, oe1, oe2, oe3, oe4, oe5, oe6, otn, ot1, ot2, ot4, c3, y3, nph, wr_def p3, wr_def (x3' _)]); first | done | rfl)); first | apply zk | (apply zn; (focus rfl); try (focus (first | rfl | (simp [c3, y3, nph, wr_def p3, wr_def (x3' _)]; done)))) | (apply zo; (focus rfl)) | apply gv_u | apply gv_tt | apply gv_ff | apply gv_ft | apply gv_tf | (apply gv_split <;> intro hc <;> try simp only [decide_eq_true_eq, decide_eq_false_iff_not, beq_iff_eq, beq_eq_false_iff_ne, bne_iff_ne, bne_eq_false_iff_eq, Bool.not_true, Bool.not_false, ne_eq] at hc) | exact (satRead_runs (by simp; omega)))
 | (simp (disch := omega) only [thenQ_normal, thenQ_exit, thenQ_ret, blockQ_normal, blockQ_ret, blockQ_exit_same, blockQ_exit_ne]))
        exact ⟨rfl, by rw [Array.getElem?_setIfInBounds, if_neg (by omega), Array.getElem?_setIfInBounds, if_pos rfl, if_pos hlt3]; simp [tdO], (K3.set _ (.inr rfl)).set _ (.inl (Nat.le_refl _))⟩
  · have hx : x = sp0 := herr he
    subst hx
    simp only [ne_eq, he, not_false_eq_true, true_or, if_true]
    have x1' : (h1.push (.cells [.int .i64 0, .int .i64 0, .int .i64 0, .int .i64 0] 46))[h.size]? = some (.cells [.int .i64 0, .int .i64 0, .int .i64 0, .int .i64 0, .int .i64 0] 57) := by rw [Array.getElem?_push, if_neg (by omega)]; exact x1
    repeat' (first
 | refine za ?_ | refine zb ?_ | refine zc ?_ | refine zd ?_ | refine ze ?_ | refine zf ?_ | refine zg ?_ | refine zh ?_ | (refine zi ?_; try refine RgD_plain rfl ?_) | refine w_drawn rfl ?_ | refine zj ?_ | refine zl ?_
 | ((first | apply zs | (apply zt; (focus rfl)) | (apply zu; (focus rfl)) | (apply zv; (focus rfl)) | apply zx | apply zy | apply zB | apply zC | apply zD | apply zE | apply zF); (focus ((conv => lhs; simp (disch := omega) [-env0_get, bound, List.getElem?_cons_zero, List.getElem?_cons_succ, odt, odf, oip, oin, obt, obf, ont, onf, wrapI, owu, ow8, ow32, otd, oe0, oe1, oe2, oe3, oe4, oe5, oe6, otn, ot1, ot2, ot4, sp0, wr_def x1, wr_def x1']); first | done | rfl)); first | apply zk | (apply zn; (focus rfl); try (focus (first | rfl | (simp [sp0, wr_def x1, wr_def x1']; done)))) | (apply zo; (focus rfl)) | apply gv_u | apply gv_tt | apply gv_ff | apply gv_ft | apply gv_tf | (apply gv_split <;> intro hc <;> try simp only [decide_eq_true_eq, decide_eq_false_iff_not, beq_iff_eq, beq_eq_false_iff_ne, bne_iff_ne, bne_eq_false_iff_eq, Bool.not_true, Bool.not_false, ne_eq] at hc))
 | (simp (disch := omega) only [thenQ_normal, thenQ_exit, thenQ_ret, blockQ_normal, blockQ_ret, blockQ_exit_same, blockQ_exit_ne]))
    exact ⟨rfl, by rw [Array.getElem?_setIfInBounds, if_neg (by omega), Array.getElem?_push, if_neg (by omega)]; exact p1, (K1.push _).set _ (.inl (Nat.le_refl _))⟩
end Go.Proofs.Ytlgbeekhaoiggaa
end
