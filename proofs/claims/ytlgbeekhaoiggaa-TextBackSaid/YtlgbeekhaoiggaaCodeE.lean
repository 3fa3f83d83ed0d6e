import Derived.Test.YtlgbeekhaoiggaaCodeD
set_option linter.all false
section
namespace Go.Proofs.Ytlgbeekhaoiggaa
open Go.AM
set_option maxHeartbeats 4000000
variable {f : Nat} {h : Heap}
theorem sign_R {p : Nat} {l w : List UInt8} {lo : Bool} {s : St} (hp : h[p]? = some (rdO l lo s)) (hf : f ≤ p) (hl : l.length ≤ 900000) (hw : w.length ≤ 1000) (hs : s.1 ≤ l.length) :
    callR X ⟨f, []⟩ 132 [.pointer (some ⟨p, 0, none⟩), sv w] h fun v h' => v = .int .u8 (signP l w s).1 ∧ h'[p]? = some (rdO l lo (signP l w s).2) ∧ KeepB h h' (some p) :=
  callR.of (sign_runs hp hf hl hw hs) ⟨rfl, by rw [Array.getElem?_setIfInBounds, if_pos rfl, if_pos (Array.getElem?_eq_some_iff.1 hp).1], (KeepB.refl h (some p)).set _ (.inr rfl)⟩
theorem word_R {p : Nat} {l w : List UInt8} {lo : Bool} {s : St} (hp : h[p]? = some (rdO l lo s)) (hf : f ≤ p) (hl : l.length ≤ 900000) (hs : s.1 ≤ l.length) (hw : w.length ≤ 1000) :
    callR X ⟨f, []⟩ 133 [.pointer (some ⟨p, 0, none⟩), sv w] h fun v h' => v = .bool (wordP l w s).1 ∧ h'[p]? = some (rdO l lo (wordP l w s).2) ∧ KeepB h h' (some p) :=
  callR.of (word_runs hp hf hl hs hw) ⟨rfl, by rw [Array.getElem?_setIfInBounds, if_pos rfl, if_pos (Array.getElem?_eq_some_iff.1 hp).1], (KeepB.refl h (some p)).set _ (.inr rfl)⟩
theorem blanks_R {p : Nat} {l : List UInt8} {lo : Bool} {s : St} (hp : h[p]? = some (rdO l lo s)) (hf : f ≤ p) (hl : l.length ≤ 900000) (hs : s.1 ≤ l.length) :
    callR X ⟨f, []⟩ 138 [.pointer (some ⟨p, 0, none⟩)] h fun v h' => v = .tuple #[] ∧ h'[p]? = some (rdO l lo (blanksP l lo s)) ∧ KeepB h h' (some p) :=
  callR.of (blanks_runs hp hf hl hs) ⟨rfl, by rw [Array.getElem?_setIfInBounds, if_pos rfl, if_pos (Array.getElem?_eq_some_iff.1 hp).1], (KeepB.refl h (some p)).set _ (.inr rfl)⟩
theorem numPl_R {p : Nat} {l : List UInt8} {lo : Bool} {s : St} (hp : h[p]? = some (rdO l lo s)) (hf : f ≤ p) (hl : l.length ≤ 900000) (hs : s.1 ≤ l.length) :
    callR X ⟨f, []⟩ 134 [.pointer (some ⟨p, 0, none⟩), .func (.func 135) #[] #[]] h fun v h' => v = .int .i64 (numP plainR l s).1 ∧ h'[p]? = some (rdO l lo (numP plainR l s).2) ∧ KeepB h h' (some p) :=
  callR.of (num_runs hp hf hl hs (by have := plainR_len (l := l.drop s.1); simpa using this) (plain_runs (by simp; omega))) ⟨rfl, by rw [Array.getElem?_setIfInBounds, if_pos rfl, if_pos (Array.getElem?_eq_some_iff.1 hp).1], (KeepB.refl h (some p)).set _ (.inr rfl)⟩
theorem numSat_R {p : Nat} {l : List UInt8} {lo : Bool} {s : St} (hp : h[p]? = some (rdO l lo s)) (hf : f ≤ p) (hl : l.length ≤ 900000) (hs : s.1 ≤ l.length) :
    callR X ⟨f, []⟩ 134 [.pointer (some ⟨p, 0, none⟩), .func (.func 115) #[] #[]] h fun v h' => v = .int .i64 (numP satRead l s).1 ∧ h'[p]? = some (rdO l lo (numP satRead l s).2) ∧ KeepB h h' (some p) :=
  callR.of (num_runs hp hf hl hs (by have := sat_len (l := l.drop s.1); simpa using this) (satRead_runs (by simp; omega))) ⟨rfl, by rw [Array.getElem?_setIfInBounds, if_pos rfl, if_pos (Array.getElem?_eq_some_iff.1 hp).1], (KeepB.refl h (some p)).set _ (.inr rfl)⟩
theorem signP_le {l w : List UInt8} {s : St} (hs : s.1 ≤ l.length) : (signP l w s).2.1 ≤ l.length := by
  unfold signP
  split
  · exact hs
  · cases hb : l[s.1]? with
    | none => exact hs
    | some b =>
      have := (List.getElem?_eq_some_iff.1 hb).1
      simp only; split <;> simp only <;> omega
theorem wordP_le {l w : List UInt8} {s : St} (hs : s.1 ≤ l.length) : (wordP l w s).2.1 ≤ l.length := by
  unfold wordP
  split
  · rename_i hc; have := congrArg List.length hc.2.1; simp at this; simp only; omega
  · exact hs
theorem numP_le {rd : List UInt8 → Int × Nat} {l : List UInt8} {s : St} (hr : ∀ m, (rd m).2 ≤ m.length) (hs : s.1 ≤ l.length) : (numP rd l s).2.1 ≤ l.length := by
  unfold numP
  split
  · exact hs
  · have := hr (l.drop s.1); simp at this; simp only; omega
theorem blanksP_le {lo : Bool} {l : List UInt8} {s : St} (hs : s.1 ≤ l.length) : (blanksP l lo s).1 ≤ l.length := by
  unfold blanksP; split
  · exact skip_le l s.1 hs
  · exact hs
theorem numP_rng {rd : List UInt8 → Int × Nat} {l : List UInt8} {s : St} (hr : ∀ m, I64 (rd m).1) : I64 (numP rd l s).1 := by
  unfold numP; split
  · exact ⟨by simp, by simp⟩
  · exact hr _
structure RS (n : Nat) (h : Heap) (l : List UInt8) (lo : Bool) (s : St) (a b : Int × Int) : Prop where
  z : h[n]? = some z4
  r : h[n + 1]? = some (rdO l lo s)
  a : h[n + 2]? = some (bO a)
  b : h[n + 3]? = some (bO b)
theorem lt_of {n : Nat} {x : AObj} (hh : h[n]? = some x) : n < h.size := (Array.getElem?_eq_some_iff.1 hh).1
theorem RS.keep {n : Nat} {h' : Heap} {l : List UInt8} {lo : Bool} {s s' : St} {a b : Int × Int} (R : RS n h l lo s a b) (hr : h'[n + 1]? = some (rdO l lo s')) (k : KeepB h h' (some (n + 1))) : RS n h' l lo s' a b :=
  ⟨by rw [k.2 n (lt_of R.z) (by simp)]; exact R.z, hr, by rw [k.2 _ (lt_of R.a) (by simp)]; exact R.a, by rw [k.2 _ (lt_of R.b) (by simp)]; exact R.b⟩
theorem RS.setR {n : Nat} {l : List UInt8} {lo : Bool} {s s' : St} {a b : Int × Int} (R : RS n h l lo s a b) : RS n (h.setIfInBounds (n + 1) (rdO l lo s')) l lo s' a b :=
  R.keep (by rw [Array.getElem?_setIfInBounds, if_pos rfl, if_pos (lt_of R.r)]) ((KeepB.refl h _).set _ (.inr rfl))
theorem RS.setA {n : Nat} {l : List UInt8} {lo : Bool} {s : St} {a a' b : Int × Int} (R : RS n h l lo s a b) : RS n (h.setIfInBounds (n + 2) (bO a')) l lo s a' b :=
  ⟨by rw [Array.getElem?_setIfInBounds, if_neg (by omega)]; exact R.z, by rw [Array.getElem?_setIfInBounds, if_neg (by omega)]; exact R.r, by rw [Array.getElem?_setIfInBounds, if_pos rfl, if_pos (lt_of R.a)], by rw [Array.getElem?_setIfInBounds, if_neg (by omega)]; exact R.b⟩
theorem RS.setB {n : Nat} {l : List UInt8} {lo : Bool} {s : St} {a b b' : Int × Int} (R : RS n h l lo s a b) : RS n (h.setIfInBounds (n + 3) (bO b')) l lo s a b' :=
  ⟨by rw [Array.getElem?_setIfInBounds, if_neg (by omega)]; exact R.z, by rw [Array.getElem?_setIfInBounds, if_neg (by omega)]; exact R.r, by rw [Array.getElem?_setIfInBounds, if_neg (by omega)]; exact R.a, by rw [Array.getElem?_setIfInBounds, if_pos rfl, if_pos (lt_of R.b)]⟩
theorem cellsAt_of {n : Nat} {c : List Value} {e : TypeId} (hh : h[n]? = some (.cells c e)) : h.cellsAt n = some c := by unfold Heap.cellsAt; rw [hh]
def lowP (l : List UInt8) : (Int × Int) × St :=
  if (signP l [40, 91] (0, false)).1 = 40 then ((0, 0), ((wordP l minf (signP l [40, 91] (0, false)).2).2.1, !(wordP l minf (signP l [40, 91] (0, false)).2).1))
  else ((2, (numP plainR l (signP l [40, 91] (0, false)).2).1), (numP plainR l (signP l [40, 91] (0, false)).2).2)
def highP (l : List UInt8) (s : St) : (Int × Int) × St :=
  if (wordP l pinf s).1 then ((0, 0), (wordP l pinf s).2) else ((1, (numP plainR l (wordP l pinf s).2).1), (numP plainR l (wordP l pinf s).2).2)
def readP (l : List UInt8) : Sp × Nat × Int :=
  toldP (signP l [41] (highP l (signP l [44] (lowP l).2).2).2).2 (lowP l).1.1 (lowP l).1.2 (highP l (signP l [44] (lowP l).2).2).1.1 (highP l (signP l [44] (lowP l).2).2).1.2 (signP l [44] (lowP l).2).2.1
theorem lowP_ok {l : List UInt8} : (0 ≤ (lowP l).1.1 ∧ (lowP l).1.1 ≤ 2) ∧ I64 (lowP l).1.2 ∧ (lowP l).2.1 ≤ l.length := by
  have h0 := signP_le (l := l) (w := [40, 91]) (s := (0, false)) (by simp)
  unfold lowP; split
  · exact ⟨⟨by simp, by simp⟩, ⟨by simp, by simp⟩, wordP_le h0⟩
  · exact ⟨⟨by simp, by simp⟩, numP_rng (fun m => plainR_rng), numP_le (fun m => plainR_len) h0⟩
theorem highP_ok {l : List UInt8} {s : St} (hs : s.1 ≤ l.length) : (0 ≤ (highP l s).1.1 ∧ (highP l s).1.1 ≤ 2) ∧ I64 (highP l s).1.2 ∧ (highP l s).2.1 ≤ l.length := by
  have h0 := wordP_le (w := pinf) hs
  unfold highP; split
  · exact ⟨⟨by simp, by simp⟩, ⟨by simp, by simp⟩, h0⟩
  · exact ⟨⟨by simp, by simp⟩, numP_rng (fun m => plainR_rng), numP_le (fun m => plainR_len) h0⟩
theorem bRead_runs {l : List UInt8} (hl : l.length ≤ 900000) : Runs X ⟨f, []⟩ 111 [sv l] h (tri (readP l)) h := by
  refine Runs_of rfl f111_is ?_
  simp only [f111b]
  generalize hC3 : (ACode.seq (ACode.reg f111r11) _) = C3
  generalize hC2 : (ACode.seq (ACode.seq (ACode.reg f111r9) _) _) = C2
  generalize hC1 : (ACode.seq (ACode.reg f111r7) _) = C1
  simp only [f111r0, f111r1, f111r2, f111r3, f111r4, f111r5, f111r6]
  obtain ⟨hlk, hla, hls⟩ := lowP_ok (l := l)
  have hs1 := signP_le (l := l) (w := [40, 91]) (s := (0, false)) (by simp)
  let Env1 : Env → Prop := fun env => env 2 = .pointer (some ⟨h.size, 0, none⟩) ∧ env 5 = .pointer (some ⟨h.size + 1, 0, none⟩) ∧ env 6 = .pointer (some ⟨h.size + 2, 0, none⟩) ∧ env 7 = .pointer (some ⟨h.size + 3, 0, none⟩) ∧ env 8 = .func (.func 132) #[.pointer (some ⟨h.size + 1, 0, none⟩)] #[] ∧ env 9 = .func (.func 133) #[.pointer (some ⟨h.size + 1, 0, none⟩)] #[]
  apply mergeOk (X := X) (κ := ⟨h.size, []⟩) (c := C1) (Q := EndsQ [.cellN 2 4, .tmp 3, .tmp 4] .pure h (tri (readP l)) h) (fun env h' => Env1 env ∧ RS h.size h' l false (lowP l).2 (lowP l).1 (0, 0))
  case g =>
    intro key
    repeat' (first
 | refine za ?_ | refine zb ?_ | refine zc ?_ | refine zd ?_ | refine ze ?_ | refine zf ?_ | refine zg ?_ | refine zh ?_ | (refine zi ?_; try refine RgD_plain rfl ?_) | refine w_drawn rfl ?_ | refine zj ?_ | refine zl ?_
 | ((first | apply zs | (apply zt; (focus rfl)) | (apply zu; (focus rfl)) | (apply zv; (focus rfl)) | apply zx | apply zy | apply zB | apply zC | apply zD | apply zE | apply zF); (focus ((conv => lhs; simp (disch := omega) [-env0_get, bound, List.getElem?_cons_zero, List.getElem?_cons_succ, odt, odf, oip, oin, obt, obf, ont, onf, wrapI, owu, ow8, ow32, otd, oe0, oe1, oe2, oe3, oe4, oe5, oe6, otn, ot1, ot2, ot4]); first | done | rfl)); first | apply zk | (apply zn; (focus rfl); try (focus (first | rfl | (simp; done)))) | (apply zo; (focus rfl)) | apply gv_u | apply gv_tt | apply gv_ff | apply gv_ft | apply gv_tf | (apply gv_split <;> intro hc <;> try simp only [decide_eq_true_eq, decide_eq_false_iff_not, beq_iff_eq, beq_eq_false_iff_ne, bne_iff_ne, bne_eq_false_iff_eq, Bool.not_true, Bool.not_false, ne_eq] at hc))
 | (simp (disch := omega) only [thenQ_normal, thenQ_exit, thenQ_ret, blockQ_normal, blockQ_ret, blockQ_exit_same, blockQ_exit_ne]))
    have R0 : RS h.size ((((h.push z4).push (rdO l false (0, false))).push (bO (0, 0))).push (bO (0, 0))) l false (0, false) (0, 0) (0, 0) :=
      ⟨by rw [Array.getElem?_push, if_neg (by simp; omega), Array.getElem?_push, if_neg (by simp; omega), Array.getElem?_push, if_neg (by simp), Array.getElem?_push, if_pos rfl], by rw [Array.getElem?_push, if_neg (by simp), Array.getElem?_push, if_neg (by simp), Array.getElem?_push, if_pos (by simp)], by rw [Array.getElem?_push, if_neg (by simp), Array.getElem?_push, if_pos (by simp)], by rw [Array.getElem?_push, if_pos (by simp)]⟩
    (apply zW; (focus ((conv => lhs; simp (disch := omega) [-env0_get, bound, List.getElem?_cons_zero, List.getElem?_cons_succ, odt, odf, oip, oin, obt, obf, ont, onf, wrapI, owu, ow8, ow32, otd, oe0, oe1, oe2, oe3, oe4, oe5, oe6, otn, ot1, ot2, ot4]); first | done | rfl)); (focus exact (sign_R (p := h.size + 1) (w := [40, 91]) R0.r (by omega) hl (by simp) (by simp)))); intro v1 h1 q1
    obtain ⟨rfl, p1, k1⟩ := q1
    have R1 := R0.keep p1 k1
    by_cases h40 : (signP l [40, 91] (0, false)).1 = 40
    · have eL : lowP l = ((0, 0), ((wordP l minf (signP l [40, 91] (0, false)).2).2.1, !(wordP l minf (signP l [40, 91] (0, false)).2).1)) := if_pos h40
      repeat' (first
 | refine za ?_ | refine zb ?_ | refine zc ?_ | refine zd ?_ | refine ze ?_ | refine zf ?_ | refine zg ?_ | refine zh ?_ | (refine zi ?_; try refine RgD_plain rfl ?_) | refine w_drawn rfl ?_ | refine zj ?_ | refine zl ?_
 | ((first | apply zs | (apply zt; (focus rfl)) | (apply zu; (focus rfl)) | (apply zv; (focus rfl)) | apply zx | apply zy | apply zB | apply zC | apply zD | apply zE | apply zF); (focus ((conv => lhs; simp (disch := omega) [-env0_get, bound, List.getElem?_cons_zero, List.getElem?_cons_succ, odt, odf, oip, oin, obt, obf, ont, onf, wrapI, owu, ow8, ow32, otd, oe0, oe1, oe2, oe3, oe4, oe5, oe6, otn, ot1, ot2, ot4, h40]); first | done | rfl)); first | apply zk | (apply zn; (focus rfl); try (focus (first | rfl | (simp [h40]; done)))) | (apply zo; (focus rfl)) | apply gv_u | apply gv_tt | apply gv_ff | apply gv_ft | apply gv_tf | (apply gv_split <;> intro hc <;> try simp only [decide_eq_true_eq, decide_eq_false_iff_not, beq_iff_eq, beq_eq_false_iff_ne, bne_iff_ne, bne_eq_false_iff_eq, Bool.not_true, Bool.not_false, ne_eq] at hc))
 | (simp (disch := omega) only [thenQ_normal, thenQ_exit, thenQ_ret, blockQ_normal, blockQ_ret, blockQ_exit_same, blockQ_exit_ne]))
      (apply zW; (focus ((conv => lhs; simp (disch := omega) [-env0_get, bound, List.getElem?_cons_zero, List.getElem?_cons_succ, odt, odf, oip, oin, obt, obf, ont, onf, wrapI, owu, ow8, ow32, otd, oe0, oe1, oe2, oe3, oe4, oe5, oe6, otn, ot1, ot2, ot4]); first | done | rfl)); (focus exact (word_R (w := minf) R1.r (by omega) hl hs1 (by simp [minf])))); intro v2 h2 q2
      obtain ⟨rfl, p2, k2⟩ := q2
      have R2 := R1.keep p2 k2
      have hlt := lt_of R2.r
      repeat' (first
 | refine za ?_ | refine zb ?_ | refine zc ?_ | refine zd ?_ | refine ze ?_ | refine zf ?_ | refine zg ?_ | refine zh ?_ | (refine zi ?_; try refine RgD_plain rfl ?_) | refine w_drawn rfl ?_ | refine zj ?_ | refine zl ?_
 | ((first | apply zs | (apply zt; (focus rfl)) | (apply zu; (focus rfl)) | (apply zv; (focus rfl)) | apply zx | apply zy | apply zB | apply zC | apply zD | apply zE | apply zF); (focus ((conv => lhs; simp (disch := omega) [-env0_get, bound, List.getElem?_cons_zero, List.getElem?_cons_succ, odt, odf, oip, oin, obt, obf, ont, onf, wrapI, owu, ow8, ow32, otd, oe0, oe1, oe2, oe3, oe4, oe5, oe6, otn, ot1, ot2, ot4, wr_def R2.r]); first | done | rfl)); first | apply zk | (apply zn; (focus rfl); try (focus (first | rfl | (simp [wr_def R2.r]; done)))) | (apply zo; (focus rfl)) | apply gv_u | apply gv_tt | apply gv_ff | apply gv_ft | apply gv_tf | (apply gv_split <;> intro hc <;> try simp only [decide_eq_true_eq, decide_eq_false_iff_not, beq_iff_eq, beq_eq_false_iff_ne, bne_iff_ne, bne_eq_false_iff_eq, Bool.not_true, Bool.not_false, ne_eq] at hc))
 | (simp (disch := omega) only [thenQ_normal, thenQ_exit, thenQ_ret, blockQ_normal, blockQ_ret, blockQ_exit_same, blockQ_exit_ne]))
      refine key _ _ ⟨⟨by simp, by simp, by simp, by simp, by simp, by simp⟩, ?_⟩
      rw [eL]
      exact R2.setR (s' := ((wordP l minf (signP l [40, 91] (0, false)).2).2.1, !(wordP l minf (signP l [40, 91] (0, false)).2).1))
    · have eL : lowP l = ((2, (numP plainR l (signP l [40, 91] (0, false)).2).1), (numP plainR l (signP l [40, 91] (0, false)).2).2) := if_neg h40
      repeat' (first
 | refine za ?_ | refine zb ?_ | refine zc ?_ | refine zd ?_ | refine ze ?_ | refine zf ?_ | refine zg ?_ | refine zh ?_ | (refine zi ?_; try refine RgD_plain rfl ?_) | refine w_drawn rfl ?_ | refine zj ?_ | refine zl ?_
 | ((first | apply zs | (apply zt; (focus rfl)) | (apply zu; (focus rfl)) | (apply zv; (focus rfl)) | apply zx | apply zy | apply zB | apply zC | apply zD | apply zE | apply zF); (focus ((conv => lhs; simp (disch := omega) [-env0_get, bound, List.getElem?_cons_zero, List.getElem?_cons_succ, odt, odf, oip, oin, obt, obf, ont, onf, wrapI, owu, ow8, ow32, otd, oe0, oe1, oe2, oe3, oe4, oe5, oe6, otn, ot1, ot2, ot4, h40]); first | done | rfl)); first | apply zk | (apply zn; (focus rfl); try (focus (first | rfl | (simp [h40]; done)))) | (apply zo; (focus rfl)) | apply gv_u | apply gv_tt | apply gv_ff | apply gv_ft | apply gv_tf | (apply gv_split <;> intro hc <;> try simp only [decide_eq_true_eq, decide_eq_false_iff_not, beq_iff_eq, beq_eq_false_iff_ne, bne_iff_ne, bne_eq_false_iff_eq, Bool.not_true, Bool.not_false, ne_eq] at hc))
 | (simp (disch := omega) only [thenQ_normal, thenQ_exit, thenQ_ret, blockQ_normal, blockQ_ret, blockQ_exit_same, blockQ_exit_ne]))
      (apply zW; (focus ((conv => lhs; simp (disch := omega) [-env0_get, bound, List.getElem?_cons_zero, List.getElem?_cons_succ, odt, odf, oip, oin, obt, obf, ont, onf, wrapI, owu, ow8, ow32, otd, oe0, oe1, oe2, oe3, oe4, oe5, oe6, otn, ot1, ot2, ot4]); first | done | rfl)); (focus exact (numPl_R R1.r (by omega) hl hs1))); intro v2 h2 q2
      obtain ⟨rfl, p2, k2⟩ := q2
      have R2 := R1.keep p2 k2
      have hlt := lt_of R2.a
      repeat' (first
 | refine za ?_ | refine zb ?_ | refine zc ?_ | refine zd ?_ | refine ze ?_ | refine zf ?_ | refine zg ?_ | refine zh ?_ | (refine zi ?_; try refine RgD_plain rfl ?_) | refine w_drawn rfl ?_ | refine zj ?_ | refine zl ?_
 | ((first | apply zs | (apply zt; (focus rfl)) | (apply zu; (focus rfl)) | (apply zv; (focus rfl)) | apply zx | apply zy | apply zB | apply zC | apply zD | apply zE | apply zF); (focus ((conv => lhs; simp (disch := omega) [-env0_get, bound, List.getElem?_cons_zero, List.getElem?_cons_succ, odt, odf, oip, oin, obt, obf, ont, onf, wrapI, owu, ow8, ow32, otd, oe0, oe1, oe2, oe3, oe4, oe5, oe6, otn, ot1, ot2, ot4, wr_def R2.a]); first | done | rfl)); first | apply zk | (apply zn; (focus rfl); try (focus (first | rfl | (simp [wr_def R2.a]; done)))) | (apply zo; (focus rfl)) | apply gv_u | apply gv_tt | apply gv_ff | apply gv_ft | apply gv_tf | (apply gv_split <;> intro hc <;> try simp only [decide_eq_true_eq, decide_eq_false_iff_not, beq_iff_eq, beq_eq_false_iff_ne, bne_iff_ne, bne_eq_false_iff_eq, Bool.not_true, Bool.not_false, ne_eq] at hc))
 | (simp (disch := omega) only [thenQ_normal, thenQ_exit, thenQ_ret, blockQ_normal, blockQ_ret, blockQ_exit_same, blockQ_exit_ne]))
      refine key _ _ ⟨⟨by simp, by simp, by simp, by simp, by simp, by simp⟩, ?_⟩
      rw [eL]
      exact R2.setA (a' := (_, _))
  rintro env h1 ⟨⟨e2, e5, e6, e7, e8, e9⟩, R1⟩
  rw [← hC1]
  simp only [f111r7, f111r8]
  have hs3 := signP_le (l := l) (w := [44]) hls
  obtain ⟨hhk, hha, hhs⟩ := highP_ok (l := l) (s := (signP l [44] (lowP l).2).2) hs3
  repeat' (first
 | refine za ?_ | refine zb ?_ | refine zc ?_ | refine zd ?_ | refine ze ?_ | refine zf ?_ | refine zg ?_ | refine zh ?_ | (refine zi ?_; try refine RgD_plain rfl ?_) | refine w_drawn rfl ?_ | refine zj ?_ | refine zl ?_
 | ((first | apply zs | (apply zt; (focus rfl)) | (apply zu; (focus rfl)) | (apply zv; (focus rfl)) | apply zx | apply zy | apply zB | apply zC | apply zD | apply zE | apply zF); (focus ((conv => lhs; simp (disch := omega) [-env0_get, bound, List.getElem?_cons_zero, List.getElem?_cons_succ, odt, odf, oip, oin, obt, obf, ont, onf, wrapI, owu, ow8, ow32, otd, oe0, oe1, oe2, oe3, oe4, oe5, oe6, otn, ot1, ot2, ot4, e2, e5, e6, e7, e8, e9]); first | done | rfl)); first | apply zk | (apply zn; (focus rfl); try (focus (first | rfl | (simp [e2, e5, e6, e7, e8, e9]; done)))) | (apply zo; (focus rfl)) | apply gv_u | apply gv_tt | apply gv_ff | apply gv_ft | apply gv_tf | (apply gv_split <;> intro hc <;> try simp only [decide_eq_true_eq, decide_eq_false_iff_not, beq_iff_eq, beq_eq_false_iff_ne, bne_iff_ne, bne_eq_false_iff_eq, Bool.not_true, Bool.not_false, ne_eq] at hc))
 | (simp (disch := omega) only [thenQ_normal, thenQ_exit, thenQ_ret, blockQ_normal, blockQ_ret, blockQ_exit_same, blockQ_exit_ne]))
  (apply zW; (focus ((conv => lhs; simp (disch := omega) [-env0_get, bound, List.getElem?_cons_zero, List.getElem?_cons_succ, odt, odf, oip, oin, obt, obf, ont, onf, wrapI, owu, ow8, ow32, otd, oe0, oe1, oe2, oe3, oe4, oe5, oe6, otn, ot1, ot2, ot4, e2, e5, e6, e7, e8, e9]); first | done | rfl)); (focus exact (sign_R (w := [44]) R1.r (by omega) hl (by simp) hls))); intro v2 h2 q2
  obtain ⟨rfl, p2, k2⟩ := q2
  have R2 := R1.keep p2 k2
  apply mergeOk (X := X) (κ := ⟨h.size, []⟩) (c := C3) (Q := EndsQ [.cellN 2 4, .tmp 3, .tmp 4] .pure h (tri (readP l)) h) (fun env h' => Env1 env ∧ env 10 = .int .i64 ((signP l [44] (lowP l).2).2.1 : Nat) ∧ RS h.size h' l false (highP l (signP l [44] (lowP l).2).2).2 (lowP l).1 (highP l (signP l [44] (lowP l).2).2).1)
  case g =>
    intro key
    generalize (signP l [44] (lowP l).2).2 = s3 at *
    have cr := cellsAt_of (h := h2) (n := h.size + 1) R2.r
    repeat' (first
 | refine za ?_ | refine zb ?_ | refine zc ?_ | refine zd ?_ | refine ze ?_ | refine zf ?_ | refine zg ?_ | refine zh ?_ | (refine zi ?_; try refine RgD_plain rfl ?_) | refine w_drawn rfl ?_ | refine zj ?_ | refine zl ?_
 | ((first | apply zs | (apply zt; (focus rfl)) | (apply zu; (focus rfl)) | (apply zv; (focus rfl)) | apply zx | apply zy | apply zB | apply zC | apply zD | apply zE | apply zF); (focus ((conv => lhs; simp (disch := omega) [-env0_get, bound, List.getElem?_cons_zero, List.getElem?_cons_succ, odt, odf, oip, oin, obt, obf, ont, onf, wrapI, owu, ow8, ow32, otd, oe0, oe1, oe2, oe3, oe4, oe5, oe6, otn, ot1, ot2, ot4, e2, e5, e6, e7, e8, e9, cr]); first | done | rfl)); first | apply zk | (apply zn; (focus rfl); try (focus (first | rfl | (simp [e2, e5, e6, e7, e8, e9, cr]; done)))) | (apply zo; (focus rfl)) | apply gv_u | apply gv_tt | apply gv_ff | apply gv_ft | apply gv_tf | (apply gv_split <;> intro hc <;> try simp only [decide_eq_true_eq, decide_eq_false_iff_not, beq_iff_eq, beq_eq_false_iff_ne, bne_iff_ne, bne_eq_false_iff_eq, Bool.not_true, Bool.not_false, ne_eq] at hc))
 | (simp (disch := omega) only [thenQ_normal, thenQ_exit, thenQ_ret, blockQ_normal, blockQ_ret, blockQ_exit_same, blockQ_exit_ne]))
    rw [← hC2]
    simp only [f111r9, f111r10]
    repeat' (first
 | refine za ?_ | refine zb ?_ | refine zc ?_ | refine zd ?_ | refine ze ?_ | refine zf ?_ | refine zg ?_ | refine zh ?_ | (refine zi ?_; try refine RgD_plain rfl ?_) | refine w_drawn rfl ?_ | refine zj ?_ | refine zl ?_
 | ((first | apply zs | (apply zt; (focus rfl)) | (apply zu; (focus rfl)) | (apply zv; (focus rfl)) | apply zx | apply zy | apply zB | apply zC | apply zD | apply zE | apply zF); (focus ((conv => lhs; simp (disch := omega) [-env0_get, bound, List.getElem?_cons_zero, List.getElem?_cons_succ, odt, odf, oip, oin, obt, obf, ont, onf, wrapI, owu, ow8, ow32, otd, oe0, oe1, oe2, oe3, oe4, oe5, oe6, otn, ot1, ot2, ot4, e2, e5, e6, e7, e8, e9]); first | done | rfl)); first | apply zk | (apply zn; (focus rfl); try (focus (first | rfl | (simp [e2, e5, e6, e7, e8, e9]; done)))) | (apply zo; (focus rfl)) | apply gv_u | apply gv_tt | apply gv_ff | apply gv_ft | apply gv_tf | (apply gv_split <;> intro hc <;> try simp only [decide_eq_true_eq, decide_eq_false_iff_not, beq_iff_eq, beq_eq_false_iff_ne, bne_iff_ne, bne_eq_false_iff_eq, Bool.not_true, Bool.not_false, ne_eq] at hc))
 | (simp (disch := omega) only [thenQ_normal, thenQ_exit, thenQ_ret, blockQ_normal, blockQ_ret, blockQ_exit_same, blockQ_exit_ne]))
    (apply zW; (focus ((conv => lhs; simp (disch := omega) [-env0_get, bound, List.getElem?_cons_zero, List.getElem?_cons_succ, odt, odf, oip, oin, obt, obf, ont, onf, wrapI, owu, ow8, ow32, otd, oe0, oe1, oe2, oe3, oe4, oe5, oe6, otn, ot1, ot2, ot4, e2, e5, e6, e7, e8, e9]); first | done | rfl)); (focus exact (word_R (w := pinf) R2.r (by omega) hl hs3 (by simp [pinf])))); intro v3 h3 q3
    obtain ⟨rfl, p3, k3⟩ := q3
    have R3 := R2.keep p3 k3
    cases hw : (wordP l pinf s3).1 with
    | true =>
      have eH : highP l s3 = ((0, 0), (wordP l pinf s3).2) := by unfold highP; rw [if_pos hw]
      repeat' (first
 | refine za ?_ | refine zb ?_ | refine zc ?_ | refine zd ?_ | refine ze ?_ | refine zf ?_ | refine zg ?_ | refine zh ?_ | (refine zi ?_; try refine RgD_plain rfl ?_) | refine w_drawn rfl ?_ | refine zj ?_ | refine zl ?_
 | ((first | apply zs | (apply zt; (focus rfl)) | (apply zu; (focus rfl)) | (apply zv; (focus rfl)) | apply zx | apply zy | apply zB | apply zC | apply zD | apply zE | apply zF); (focus ((conv => lhs; simp (disch := omega) [-env0_get, bound, List.getElem?_cons_zero, List.getElem?_cons_succ, odt, odf, oip, oin, obt, obf, ont, onf, wrapI, owu, ow8, ow32, otd, oe0, oe1, oe2, oe3, oe4, oe5, oe6, otn, ot1, ot2, ot4, e2, e5, e6, e7, e8, e9, hw]); first | done | rfl)); first | apply zk | (apply zn; (focus rfl); try (focus (first | rfl | (simp [e2, e5, e6, e7, e8, e9, hw]; done)))) | (apply zo; (focus rfl)) | apply gv_u | apply gv_tt | apply gv_ff | apply gv_ft | apply gv_tf | (apply gv_split <;> intro hc <;> try simp only [decide_eq_true_eq, decide_eq_false_iff_not, beq_iff_eq, beq_eq_false_iff_ne, bne_iff_ne, bne_eq_false_iff_eq, Bool.not_true, Bool.not_false, ne_eq] at hc))
 | (simp (disch := omega) only [thenQ_normal, thenQ_exit, thenQ_ret, blockQ_normal, blockQ_ret, blockQ_exit_same, blockQ_exit_ne]))
      refine key _ _ ⟨⟨by simp [e2], by simp [e5], by simp [e6], by simp [e7], by simp [e8], by simp [e9]⟩, by simp, ?_⟩
      rw [eH]; exact R3
    | false =>
      have eH : highP l s3 = ((1, (numP plainR l (wordP l pinf s3).2).1), (numP plainR l (wordP l pinf s3).2).2) := by unfold highP; rw [if_neg (by simp [hw])]
      repeat' (first
 | refine za ?_ | refine zb ?_ | refine zc ?_ | refine zd ?_ | refine ze ?_ | refine zf ?_ | refine zg ?_ | refine zh ?_ | (refine zi ?_; try refine RgD_plain rfl ?_) | refine w_drawn rfl ?_ | refine zj ?_ | refine zl ?_
 | ((first | apply zs | (apply zt; (focus rfl)) | (apply zu; (focus rfl)) | (apply zv; (focus rfl)) | apply zx | apply zy | apply zB | apply zC | apply zD | apply zE | apply zF); (focus ((conv => lhs; simp (disch := omega) [-env0_get, bound, List.getElem?_cons_zero, List.getElem?_cons_succ, odt, odf, oip, oin, obt, obf, ont, onf, wrapI, owu, ow8, ow32, otd, oe0, oe1, oe2, oe3, oe4, oe5, oe6, otn, ot1, ot2, ot4, e2, e5, e6, e7, e8, e9, hw]); first | done | rfl)); first | apply zk | (apply zn; (focus rfl); try (focus (first | rfl | (simp [e2, e5, e6, e7, e8, e9, hw]; done)))) | (apply zo; (focus rfl)) | apply gv_u | apply gv_tt | apply gv_ff | apply gv_ft | apply gv_tf | (apply gv_split <;> intro hc <;> try simp only [decide_eq_true_eq, decide_eq_false_iff_not, beq_iff_eq, beq_eq_false_iff_ne, bne_iff_ne, bne_eq_false_iff_eq, Bool.not_true, Bool.not_false, ne_eq] at hc))
 | (simp (disch := omega) only [thenQ_normal, thenQ_exit, thenQ_ret, blockQ_normal, blockQ_ret, blockQ_exit_same, blockQ_exit_ne]))
      (apply zW; (focus ((conv => lhs; simp (disch := omega) [-env0_get, bound, List.getElem?_cons_zero, List.getElem?_cons_succ, odt, odf, oip, oin, obt, obf, ont, onf, wrapI, owu, ow8, ow32, otd, oe0, oe1, oe2, oe3, oe4, oe5, oe6, otn, ot1, ot2, ot4, e2, e5, e6, e7, e8, e9]); first | done | rfl)); (focus exact (numPl_R R3.r (by omega) hl (wordP_le hs3)))); intro v4 h4 q4
      obtain ⟨rfl, p4, k4⟩ := q4
      have R4 := R3.keep p4 k4
      have hlt := lt_of R4.b
      repeat' (first
 | refine za ?_ | refine zb ?_ | refine zc ?_ | refine zd ?_ | refine ze ?_ | refine zf ?_ | refine zg ?_ | refine zh ?_ | (refine zi ?_; try refine RgD_plain rfl ?_) | refine w_drawn rfl ?_ | refine zj ?_ | refine zl ?_
 | ((first | apply zs | (apply zt; (focus rfl)) | (apply zu; (focus rfl)) | (apply zv; (focus rfl)) | apply zx | apply zy | apply zB | apply zC | apply zD | apply zE | apply zF); (focus ((conv => lhs; simp (disch := omega) [-env0_get, bound, List.getElem?_cons_zero, List.getElem?_cons_succ, odt, odf, oip, oin, obt, obf, ont, onf, wrapI, owu, ow8, ow32, otd, oe0, oe1, oe2, oe3, oe4, oe5, oe6, otn, ot1, ot2, ot4, e2, e5, e6, e7, e8, e9, wr_def R4.b]); first | done | rfl)); first | apply zk | (apply zn; (focus rfl); try (focus (first | rfl | (simp [e2, e5, e6, e7, e8, e9, wr_def R4.b]; done)))) | (apply zo; (focus rfl)) | apply gv_u | apply gv_tt | apply gv_ff | apply gv_ft | apply gv_tf | (apply gv_split <;> intro hc <;> try simp only [decide_eq_true_eq, decide_eq_false_iff_not, beq_iff_eq, beq_eq_false_iff_ne, bne_iff_ne, bne_eq_false_iff_eq, Bool.not_true, Bool.not_false, ne_eq] at hc))
 | (simp (disch := omega) only [thenQ_normal, thenQ_exit, thenQ_ret, blockQ_normal, blockQ_ret, blockQ_exit_same, blockQ_exit_ne]))
      refine key _ _ ⟨⟨by simp [e2], by simp [e5], by simp [e6], by simp [e7], by simp [e8], by simp [e9]⟩, by simp, ?_⟩
      rw [eH]; exact R4.setB (b' := (_, _))
  clear e2 e5 e6 e7 e8 e9
  rintro env h3 ⟨⟨e2, e5, e6, e7, e8, e9⟩, e10, R3⟩
  rw [← hC3]
  simp only [f111r11, f111r12]
  generalize hs3e : (signP l [44] (lowP l).2).2 = s3 at *
  have hs5 := signP_le (l := l) (w := [41]) hhs
  repeat' (first
 | refine za ?_ | refine zb ?_ | refine zc ?_ | refine zd ?_ | refine ze ?_ | refine zf ?_ | refine zg ?_ | refine zh ?_ | (refine zi ?_; try refine RgD_plain rfl ?_) | refine w_drawn rfl ?_ | refine zj ?_ | refine zl ?_
 | ((first | apply zs | (apply zt; (focus rfl)) | (apply zu; (focus rfl)) | (apply zv; (focus rfl)) | apply zx | apply zy | apply zB | apply zC | apply zD | apply zE | apply zF); (focus ((conv => lhs; simp (disch := omega) [-env0_get, bound, List.getElem?_cons_zero, List.getElem?_cons_succ, odt, odf, oip, oin, obt, obf, ont, onf, wrapI, owu, ow8, ow32, otd, oe0, oe1, oe2, oe3, oe4, oe5, oe6, otn, ot1, ot2, ot4, e2, e5, e6, e7, e8, e9]); first | done | rfl)); first | apply zk | (apply zn; (focus rfl); try (focus (first | rfl | (simp [e2, e5, e6, e7, e8, e9]; done)))) | (apply zo; (focus rfl)) | apply gv_u | apply gv_tt | apply gv_ff | apply gv_ft | apply gv_tf | (apply gv_split <;> intro hc <;> try simp only [decide_eq_true_eq, decide_eq_false_iff_not, beq_iff_eq, beq_eq_false_iff_ne, bne_iff_ne, bne_eq_false_iff_eq, Bool.not_true, Bool.not_false, ne_eq] at hc))
 | (simp (disch := omega) only [thenQ_normal, thenQ_exit, thenQ_ret, blockQ_normal, blockQ_ret, blockQ_exit_same, blockQ_exit_ne]))
  (apply zW; (focus ((conv => lhs; simp (disch := omega) [-env0_get, bound, List.getElem?_cons_zero, List.getElem?_cons_succ, odt, odf, oip, oin, obt, obf, ont, onf, wrapI, owu, ow8, ow32, otd, oe0, oe1, oe2, oe3, oe4, oe5, oe6, otn, ot1, ot2, ot4, e2, e5, e6, e7, e8, e9]); first | done | rfl)); (focus exact (sign_R (w := [41]) R3.r (by omega) hl (by simp) hhs))); intro v4 h4 q4
  obtain ⟨rfl, p4, k4⟩ := q4
  have R4 := R3.keep p4 k4
  have ca := cellsAt_of (h := h4) (n := h.size + 2) R4.a
  have cb := cellsAt_of (h := h4) (n := h.size + 3) R4.b
  have hlt := lt_of R4.z
  have eP : readP l = toldP (signP l [41] (highP l s3).2).2 (lowP l).1.1 (lowP l).1.2 (highP l s3).1.1 (highP l s3).1.2 s3.1 := by unfold readP; rw [hs3e]
  rw [eP]
  repeat' (first
 | refine za ?_ | refine zb ?_ | refine zc ?_ | refine zd ?_ | refine ze ?_ | refine zf ?_ | refine zg ?_ | refine zh ?_ | (refine zi ?_; try refine RgD_plain rfl ?_) | refine w_drawn rfl ?_ | refine zj ?_ | refine zl ?_
 | ((first | apply zs | (apply zt; (focus rfl)) | (apply zu; (focus rfl)) | (apply zv; (focus rfl)) | apply zw | apply zx | apply zy | apply zB | apply zC | apply zD | apply zE | apply zF); (focus ((conv => lhs; simp (disch := omega) [-env0_get, bound, List.getElem?_cons_zero, List.getElem?_cons_succ, odt, odf, oip, oin, obt, obf, ont, onf, wrapI, owu, ow8, ow32, otd, oe0, oe1, oe2, oe3, oe4, oe5, oe6, otn, ot1, ot2, ot4, e2, e5, e6, e7, e8, e9, e10, ca, cb, wr_def R4.z]); first | done | rfl)); first | apply zk | (apply zn; (focus rfl); try (focus (first | rfl | (simp [e2, e5, e6, e7, e8, e9, e10, ca, cb, wr_def R4.z]; done)))) | (apply zo; (focus rfl)) | apply gv_u | apply gv_tt | apply gv_ff | apply gv_ft | apply gv_tf | (apply gv_split <;> intro hc <;> try simp only [decide_eq_true_eq, decide_eq_false_iff_not, beq_iff_eq, beq_eq_false_iff_ne, bne_iff_ne, bne_eq_false_iff_eq, Bool.not_true, Bool.not_false, ne_eq] at hc) | exact (told_runs R4.r hlk hhk hla hha))
 | (simp (disch := omega) only [thenQ_normal, thenQ_exit, thenQ_ret, blockQ_normal, blockQ_ret, blockQ_exit_same, blockQ_exit_ne]))
end Go.Proofs.Ytlgbeekhaoiggaa
end

section
namespace Go.Proofs.Ytlgbeekhaoiggaa
open Go.AM
set_option maxHeartbeats 4000000
variable {f : Nat} {h : Heap}
def endP (l w : List UInt8) (cl : Bool) (s : St) : (Int × Int) × St :=
  if (wordP l w s).1 then ((0, 0), (wordP l w s).2) else ((if cl then 2 else 1, (numP satRead l (wordP l w s).2).1), (numP satRead l (wordP l w s).2).2)
theorem endP_ok {l w : List UInt8} {cl : Bool} {s : St} (hs : s.1 ≤ l.length) : (0 ≤ (endP l w cl s).1.1 ∧ (endP l w cl s).1.1 ≤ 2) ∧ I64 (endP l w cl s).1.2 ∧ (endP l w cl s).2.1 ≤ l.length := by
  have h0 := wordP_le (w := w) hs
  unfold endP; split
  · exact ⟨⟨by simp, by simp⟩, ⟨by simp, by simp⟩, h0⟩
  · exact ⟨by cases cl <;> exact ⟨by simp, by simp⟩, numP_rng (fun m => satRead_rng), numP_le (fun m => sat_len) h0⟩
abbrev ptr (n : Nat) : Value := .pointer (some ⟨n, 0, none⟩)
theorem end_R {p c : Nat} {l w : List UInt8} {cl : Bool} {s : St} {T : TypeId} (hp : h[p]? = some (rdO l true s)) (hc : h[c]? = some (.cells [ptr p] T)) (hf : f ≤ p) (hfs : f ≤ h.size) (hl : l.length ≤ 900000) (hs : s.1 ≤ l.length) (hw : w.length ≤ 1000) :
    callR X ⟨f, []⟩ 137 [sv w, .bool cl, ptr c] h fun v h' => v = .agg #[.int .i64 (endP l w cl s).1.1, .int .i64 (endP l w cl s).1.2] ∧ h'[p]? = some (rdO l true (endP l w cl s).2) ∧ KeepB h h' (some p) := by
  have hpl := lt_of hp
  have hcl := lt_of hc
  have hpc : p ≠ c := by rintro rfl; rw [hp] at hc; unfold rdO at hc; simp at hc
  have cc := cellsAt_of hc
  refine callR_of rfl f137_is ?_
  simp only [f137r0, f137r1, f137r2, f137r3, f137r4, f137r5, f137r6, f137b]
  repeat' (first
 | refine za ?_ | refine zb ?_ | refine zc ?_ | refine zd ?_ | refine ze ?_ | refine zf ?_ | refine zg ?_ | refine zh ?_ | (refine zi ?_; try refine RgD_plain rfl ?_) | refine w_drawn rfl ?_ | refine zj ?_ | refine zl ?_
 | ((first | apply zs | (apply zt; (focus rfl)) | (apply zu; (focus rfl)) | (apply zv; (focus rfl)) | apply zx | apply zy | apply zB | apply zC | apply zD | apply zE | apply zF); (focus ((conv => lhs; simp (disch := omega) [-env0_get, bound, List.getElem?_cons_zero, List.getElem?_cons_succ, odt, odf, oip, oin, obt, obf, ont, onf, wrapI, owu, ow8, ow32, otd, oe0, oe1, oe2, oe3, oe4, oe5, oe6, otn, ot1, ot2, ot4, cc]); first | done | rfl)); first | apply zk | (apply zn; (focus rfl); try (focus (first | rfl | (simp [cc]; done)))) | (apply zo; (focus rfl)) | apply gv_u | apply gv_tt | apply gv_ff | apply gv_ft | apply gv_tf | (apply gv_split <;> intro hc <;> try simp only [decide_eq_true_eq, decide_eq_false_iff_not, beq_iff_eq, beq_eq_false_iff_ne, bne_iff_ne, bne_eq_false_iff_eq, Bool.not_true, Bool.not_false, ne_eq] at hc))
 | (simp (disch := omega) only [thenQ_normal, thenQ_exit, thenQ_ret, blockQ_normal, blockQ_ret, blockQ_exit_same, blockQ_exit_ne]))
  have hp1 : (h.push (.cells [.int .i64 0, .int .i64 0] 148))[p]? = some (rdO l true s) := by rw [Array.getElem?_push, if_neg (by omega)]; exact hp
  (apply zW; (focus ((conv => lhs; simp (disch := omega) [-env0_get, bound, List.getElem?_cons_zero, List.getElem?_cons_succ, odt, odf, oip, oin, obt, obf, ont, onf, wrapI, owu, ow8, ow32, otd, oe0, oe1, oe2, oe3, oe4, oe5, oe6, otn, ot1, ot2, ot4, cc]); first | done | rfl)); (focus exact (word_R hp1 hf hl hs hw))); intro v1 h1 q1
  obtain ⟨rfl, p1, k1⟩ := q1
  have hs1 := k1.1
  simp at hs1
  have x1 : h1[h.size]? = some (.cells [.int .i64 0, .int .i64 0] 148) := by rw [k1.2 _ (by simp) (by simp; omega)]; simp
  have y1 : h1.cellsAt c = some [ptr p] := by rw [k1.cells (by simp; omega) (by simp; omega), cellsAt_push, if_neg (by omega)]; exact cc
  have hle := wordP_le (w := w) hs
  cases hb : (wordP l w s).1 with
  | true =>
    have eE : endP l w cl s = ((0, 0), (wordP l w s).2) := by unfold endP; rw [if_pos hb]
    rw [eE]
    repeat' (first
 | refine za ?_ | refine zb ?_ | refine zc ?_ | refine zd ?_ | refine ze ?_ | refine zf ?_ | refine zg ?_ | refine zh ?_ | (refine zi ?_; try refine RgD_plain rfl ?_) | refine w_drawn rfl ?_ | refine zj ?_ | refine zl ?_
 | ((first | apply zs | (apply zt; (focus rfl)) | (apply zu; (focus rfl)) | (apply zv; (focus rfl)) | apply zx | apply zy | apply zB | apply zC | apply zD | apply zE | apply zF); (focus ((conv => lhs; simp (disch := omega) [-env0_get, bound, List.getElem?_cons_zero, List.getElem?_cons_succ, odt, odf, oip, oin, obt, obf, ont, onf, wrapI, owu, ow8, ow32, otd, oe0, oe1, oe2, oe3, oe4, oe5, oe6, otn, ot1, ot2, ot4, hb, wr_def x1]); first | done | rfl)); first | apply zk | (apply zn; (focus rfl); try (focus (first | rfl | (simp [hb, wr_def x1]; done)))) | (apply zo; (focus rfl)) | apply gv_u | apply gv_tt | apply gv_ff | apply gv_ft | apply gv_tf | (apply gv_split <;> intro hc <;> try simp only [decide_eq_true_eq, decide_eq_false_iff_not, beq_iff_eq, beq_eq_false_iff_ne, bne_iff_ne, bne_eq_false_iff_eq, Bool.not_true, Bool.not_false, ne_eq] at hc))
 | (simp (disch := omega) only [thenQ_normal, thenQ_exit, thenQ_ret, blockQ_normal, blockQ_ret, blockQ_exit_same, blockQ_exit_ne]))
    exact ⟨rfl, by rw [Array.getElem?_setIfInBounds, if_neg (by omega)]; exact p1, (((KeepB.refl h _).push _).trans k1).set _ (.inl (Nat.le_refl _))⟩
  | false =>
    have eE : endP l w cl s = ((if cl then 2 else 1, (numP satRead l (wordP l w s).2).1), (numP satRead l (wordP l w s).2).2) := by unfold endP; rw [if_neg (by simp [hb])]
    rw [eE]
    repeat' (first
 | refine za ?_ | refine zb ?_ | refine zc ?_ | refine zd ?_ | refine ze ?_ | refine zf ?_ | refine zg ?_ | refine zh ?_ | (refine zi ?_; try refine RgD_plain rfl ?_) | refine w_drawn rfl ?_ | refine zj ?_ | refine zl ?_
 | ((first | apply zs | (apply zt; (focus rfl)) | (apply zu; (focus rfl)) | (apply zv; (focus rfl)) | apply zx | apply zy | apply zB | apply zC | apply zD | apply zE | apply zF); (focus ((conv => lhs; simp (disch := omega) [-env0_get, bound, List.getElem?_cons_zero, List.getElem?_cons_succ, odt, odf, oip, oin, obt, obf, ont, onf, wrapI, owu, ow8, ow32, otd, oe0, oe1, oe2, oe3, oe4, oe5, oe6, otn, ot1, ot2, ot4, hb, y1]); first | done | rfl)); first | apply zk | (apply zn; (focus rfl); try (focus (first | rfl | (simp [hb, y1]; done)))) | (apply zo; (focus rfl)) | apply gv_u | apply gv_tt | apply gv_ff | apply gv_ft | apply gv_tf | (apply gv_split <;> intro hc <;> try simp only [decide_eq_true_eq, decide_eq_false_iff_not, beq_iff_eq, beq_eq_false_iff_ne, bne_iff_ne, bne_eq_false_iff_eq, Bool.not_true, Bool.not_false, ne_eq] at hc))
 | (simp (disch := omega) only [thenQ_normal, thenQ_exit, thenQ_ret, blockQ_normal, blockQ_ret, blockQ_exit_same, blockQ_exit_ne]))
    (apply zW; (focus ((conv => lhs; simp (disch := omega) [-env0_get, bound, List.getElem?_cons_zero, List.getElem?_cons_succ, odt, odf, oip, oin, obt, obf, ont, onf, wrapI, owu, ow8, ow32, otd, oe0, oe1, oe2, oe3, oe4, oe5, oe6, otn, ot1, ot2, ot4]); first | done | rfl)); (focus exact (numSat_R p1 hf hl hle))); intro v2 h2 q2
    obtain ⟨rfl, p2, k2⟩ := q2
    have hs2 := k2.1
    have x2 : h2[h.size]? = some (.cells [.int .i64 0, .int .i64 0] 148) := by rw [k2.2 _ (by omega) (by simp; omega)]; exact x1
    rcases Bool.eq_false_or_eq_true cl with hcl2 | hcl2
    all_goals (repeat' (first
 | refine za ?_ | refine zb ?_ | refine zc ?_ | refine zd ?_ | refine ze ?_ | refine zf ?_ | refine zg ?_ | refine zh ?_ | (refine zi ?_; try refine RgD_plain rfl ?_) | refine w_drawn rfl ?_ | refine zj ?_ | refine zl ?_
 | ((first | apply zs | (apply zt; (focus rfl)) | (apply zu; (focus rfl)) | (apply zv; (focus rfl)) | apply zx | apply zy | apply zB | apply zC | apply zD | apply zE | apply zF); (focus ((conv => lhs; simp (disch := omega) [-env0_get, bound, List.getElem?_cons_zero, List.getElem?_cons_succ, odt, odf, oip, oin, obt, obf, ont, onf, wrapI, owu, ow8, ow32, otd, oe0, oe1, oe2, oe3, oe4, oe5, oe6, otn, ot1, ot2, ot4, hcl2, wr_def x2]); first | done | rfl)); first | apply zk | (apply zn; (focus rfl); try (focus (first | rfl | (simp [hcl2, wr_def x2]; done)))) | (apply zo; (focus rfl)) | apply gv_u | apply gv_tt | apply gv_ff | apply gv_ft | apply gv_tf | (apply gv_split <;> intro hc <;> try simp only [decide_eq_true_eq, decide_eq_false_iff_not, beq_iff_eq, beq_eq_false_iff_ne, bne_iff_ne, bne_eq_false_iff_eq, Bool.not_true, Bool.not_false, ne_eq] at hc))
 | (simp (disch := omega) only [thenQ_normal, thenQ_exit, thenQ_ret, blockQ_normal, blockQ_ret, blockQ_exit_same, blockQ_exit_ne])))
    all_goals exact ⟨by simp [hcl2, tup], by simp only [Array.getElem?_push, Array.getElem?_setIfInBounds, Array.size_setIfInBounds]; rw [if_neg (by have := lt_of p2; omega), if_neg (by omega)]; exact p2, ((((KeepB.refl h _).push _).trans k1).trans k2).set _ (.inl (Nat.le_refl _)) |>.push _⟩
abbrev bl (l : List UInt8) (s : St) : St := blanksP l true s
def looseA (l : List UInt8) : (Int × Int) × St := endP l minf (decide ((signP l [40, 91] (0, false)).1 = 91)) (bl l (signP l [40, 91] (0, false)).2)
def looseB (l : List UInt8) : St := bl l (signP l [44] (bl l (looseA l).2)).2
def looseC (l : List UInt8) : (Int × Int) × St := endP l pinf false (looseB l)
def looseD (l : List UInt8) : Nat × St := signP l [41, 93] (bl l (looseC l).2)
def highL (l : List UInt8) : Int × Int := if (looseD l).1 = 93 ∧ (looseC l).1.1 = 1 then (2, (looseC l).1.2) else (looseC l).1
def looseP (l : List UInt8) : Sp × Nat × Int := toldP (looseD l).2 (looseA l).1.1 (looseA l).1.2 (highL l).1 (highL l).2 (looseB l).1
structure LS (n : Nat) (h : Heap) (l : List UInt8) (s : St) : Prop where
  z : h[n]? = some z4
  r : h[n + 1]? = some (rdO l true s)
  c : h[n + 2]? = some (.cells [ptr (n + 1)] 144)
theorem LS.keep {n : Nat} {h' : Heap} {l : List UInt8} {s s' : St} (R : LS n h l s) (hr : h'[n + 1]? = some (rdO l true s')) (k : KeepB h h' (some (n + 1))) : LS n h' l s' :=
  ⟨by rw [k.2 n (lt_of R.z) (by simp)]; exact R.z, hr, by rw [k.2 _ (lt_of R.c) (by simp)]; exact R.c⟩
theorem LS.push {n : Nat} {l : List UInt8} {s : St} (R : LS n h l s) (x : AObj) : LS n (h.push x) l s :=
  R.keep (by rw [Array.getElem?_push, if_neg (by have := lt_of R.r; omega)]; exact R.r) ((KeepB.refl h _).push x)
theorem LS.set {n b : Nat} {l : List UInt8} {s : St} {x : AObj} (R : LS n h l s) (hb : n + 3 ≤ b) : LS n (h.setIfInBounds b x) l s :=
  ⟨by rw [Array.getElem?_setIfInBounds, if_neg (by omega)]; exact R.z, by rw [Array.getElem?_setIfInBounds, if_neg (by omega)]; exact R.r, by rw [Array.getElem?_setIfInBounds, if_neg (by omega)]; exact R.c⟩
theorem loose_ok {l : List UInt8} : ((0 ≤ (looseA l).1.1 ∧ (looseA l).1.1 ≤ 2) ∧ I64 (looseA l).1.2 ∧ (looseA l).2.1 ≤ l.length) ∧ (looseB l).1 ≤ l.length ∧ ((0 ≤ (looseC l).1.1 ∧ (looseC l).1.1 ≤ 2) ∧ I64 (looseC l).1.2 ∧ (looseC l).2.1 ≤ l.length) := by
  have h1 := endP_ok (l := l) (w := minf) (cl := decide ((signP l [40, 91] (0, false)).1 = 91)) (blanksP_le (lo := true) (signP_le (l := l) (w := [40, 91]) (s := (0, false)) (by simp)))
  have h2 : (looseB l).1 ≤ l.length := blanksP_le (signP_le (blanksP_le h1.2.2))
  exact ⟨h1, h2, endP_ok h2⟩
theorem bLoose_runs {l : List UInt8} (hl : l.length ≤ 900000) : Runs X ⟨f, []⟩ 112 [sv l] h (tri (looseP l)) h := by
  refine Runs_of rfl f112_is ?_
  simp only [f112r0, f112r1, f112r2, f112r3, f112r4, f112r5, f112r6, f112r7, f112r8, f112r9, f112r10, f112r11, f112r12, f112r13, f112r14, f112b]
  obtain ⟨⟨hlk, hla, hls⟩, hB, hhk, hha, hhs⟩ := loose_ok (l := l)
  have hs1 := signP_le (l := l) (w := [40, 91]) (s := (0, false)) (by simp)
  have hs2 := blanksP_le (lo := true) hs1
  have hs4 := blanksP_le (lo := true) hls
  have hs5 := signP_le (w := [44]) hs4
  have hs8 := blanksP_le (lo := true) hhs
  repeat' (first
 | refine za ?_ | refine zb ?_ | refine zc ?_ | refine zd ?_ | refine ze ?_ | refine zf ?_ | refine zg ?_ | refine zh ?_ | (refine zi ?_; try refine RgD_plain rfl ?_) | refine w_drawn rfl ?_ | refine zj ?_ | refine zl ?_
 | ((first | apply zs | (apply zt; (focus rfl)) | (apply zu; (focus rfl)) | (apply zv; (focus rfl)) | apply zx | apply zy | apply zB | apply zC | apply zD | apply zE | apply zF); (focus ((conv => lhs; simp (disch := omega) [-env0_get, bound, List.getElem?_cons_zero, List.getElem?_cons_succ, odt, odf, oip, oin, obt, obf, ont, onf, wrapI, owu, ow8, ow32, otd, oe0, oe1, oe2, oe3, oe4, oe5, oe6, otn, ot1, ot2, ot4]); first | done | rfl)); first | apply zk | (apply zn; (focus rfl); try (focus (first | rfl | (simp; done)))) | (apply zo; (focus rfl)) | apply gv_u | apply gv_tt | apply gv_ff | apply gv_ft | apply gv_tf | (apply gv_split <;> intro hc <;> try simp only [decide_eq_true_eq, decide_eq_false_iff_not, beq_iff_eq, beq_eq_false_iff_ne, bne_iff_ne, bne_eq_false_iff_eq, Bool.not_true, Bool.not_false, ne_eq] at hc))
 | (simp (disch := omega) only [thenQ_normal, thenQ_exit, thenQ_ret, blockQ_normal, blockQ_ret, blockQ_exit_same, blockQ_exit_ne]))
  have R0 : LS h.size (((h.push z4).push (rdO l true (0, false))).push (.cells [ptr (h.size + 1)] 144)) l (0, false) :=
    ⟨by rw [Array.getElem?_push, if_neg (by simp; omega), Array.getElem?_push, if_neg (by simp), Array.getElem?_push, if_pos rfl], by rw [Array.getElem?_push, if_neg (by simp), Array.getElem?_push, if_pos (by simp)], by rw [Array.getElem?_push, if_pos (by simp)]⟩
  have hz0 : Array.size (((h.push z4).push (rdO l true (0, false))).push (.cells [ptr (h.size + 1)] 144)) = h.size + 3 := by simp
  (apply zW; (focus ((conv => lhs; simp (disch := omega) [-env0_get, bound, List.getElem?_cons_zero, List.getElem?_cons_succ, odt, odf, oip, oin, obt, obf, ont, onf, wrapI, owu, ow8, ow32, otd, oe0, oe1, oe2, oe3, oe4, oe5, oe6, otn, ot1, ot2, ot4]); first | done | rfl)); (focus exact (sign_R (w := [40, 91]) R0.r (by omega) hl (by simp) (by simp)))); intro v1 h1 q1
  obtain ⟨rfl, p1, k1⟩ := q1
  have R1 := R0.keep p1 k1
  have n1 : h.size + 3 ≤ h1.size := by have := k1.1; simp at this; omega
  clear k1 p1
  have c1 := cellsAt_of R1.c
  have b91 : (((signP l [40, 91] (0, false)).1 : Int) == 91) = decide ((signP l [40, 91] (0, false)).1 = 91) := by rw [Bool.eq_iff_iff]; simp; omega
  repeat' (first
 | refine za ?_ | refine zb ?_ | refine zc ?_ | refine zd ?_ | refine ze ?_ | refine zf ?_ | refine zg ?_ | refine zh ?_ | (refine zi ?_; try refine RgD_plain rfl ?_) | refine w_drawn rfl ?_ | refine zj ?_ | refine zl ?_
 | ((first | apply zs | (apply zt; (focus rfl)) | (apply zu; (focus rfl)) | (apply zv; (focus rfl)) | apply zx | apply zy | apply zB | apply zC | apply zD | apply zE | apply zF); (focus ((conv => lhs; simp (disch := omega) [-env0_get, bound, List.getElem?_cons_zero, List.getElem?_cons_succ, odt, odf, oip, oin, obt, obf, ont, onf, wrapI, owu, ow8, ow32, otd, oe0, oe1, oe2, oe3, oe4, oe5, oe6, otn, ot1, ot2, ot4, c1, b91]); first | done | rfl)); first | apply zk | (apply zn; (focus rfl); try (focus (first | rfl | (simp [c1, b91]; done)))) | (apply zo; (focus rfl)) | apply gv_u | apply gv_tt | apply gv_ff | apply gv_ft | apply gv_tf | (apply gv_split <;> intro hc <;> try simp only [decide_eq_true_eq, decide_eq_false_iff_not, beq_iff_eq, beq_eq_false_iff_ne, bne_iff_ne, bne_eq_false_iff_eq, Bool.not_true, Bool.not_false, ne_eq] at hc))
 | (simp (disch := omega) only [thenQ_normal, thenQ_exit, thenQ_ret, blockQ_normal, blockQ_ret, blockQ_exit_same, blockQ_exit_ne]))
  (apply zW; (focus ((conv => lhs; simp (disch := omega) [-env0_get, bound, List.getElem?_cons_zero, List.getElem?_cons_succ, odt, odf, oip, oin, obt, obf, ont, onf, wrapI, owu, ow8, ow32, otd, oe0, oe1, oe2, oe3, oe4, oe5, oe6, otn, ot1, ot2, ot4]); first | done | rfl)); (focus exact (blanks_R R1.r (by omega) hl hs1))); intro v2 h2 q2
  obtain ⟨rfl, p2, k2⟩ := q2
  have R2 := R1.keep p2 k2
  have n2 := k2.1
  clear k2 p2
  repeat' (first
 | refine za ?_ | refine zb ?_ | refine zc ?_ | refine zd ?_ | refine ze ?_ | refine zf ?_ | refine zg ?_ | refine zh ?_ | (refine zi ?_; try refine RgD_plain rfl ?_) | refine w_drawn rfl ?_ | refine zj ?_ | refine zl ?_
 | ((first | apply zs | (apply zt; (focus rfl)) | (apply zu; (focus rfl)) | (apply zv; (focus rfl)) | apply zx | apply zy | apply zB | apply zC | apply zD | apply zE | apply zF); (focus ((conv => lhs; simp (disch := omega) [-env0_get, bound, List.getElem?_cons_zero, List.getElem?_cons_succ, odt, odf, oip, oin, obt, obf, ont, onf, wrapI, owu, ow8, ow32, otd, oe0, oe1, oe2, oe3, oe4, oe5, oe6, otn, ot1, ot2, ot4]); first | done | rfl)); first | apply zk | (apply zn; (focus rfl); try (focus (first | rfl | (simp; done)))) | (apply zo; (focus rfl)) | apply gv_u | apply gv_tt | apply gv_ff | apply gv_ft | apply gv_tf | (apply gv_split <;> intro hc <;> try simp only [decide_eq_true_eq, decide_eq_false_iff_not, beq_iff_eq, beq_eq_false_iff_ne, bne_iff_ne, bne_eq_false_iff_eq, Bool.not_true, Bool.not_false, ne_eq] at hc))
 | (simp (disch := omega) only [thenQ_normal, thenQ_exit, thenQ_ret, blockQ_normal, blockQ_ret, blockQ_exit_same, blockQ_exit_ne]))
  (apply zW; (focus ((conv => lhs; simp (disch := omega) [-env0_get, bound, List.getElem?_cons_zero, List.getElem?_cons_succ, odt, odf, oip, oin, obt, obf, ont, onf, wrapI, owu, ow8, ow32, otd, oe0, oe1, oe2, oe3, oe4, oe5, oe6, otn, ot1, ot2, ot4]); first | done | rfl)); (focus exact (end_R (w := minf) R2.r R2.c (by omega) (by omega) hl hs2 (by simp [minf])))); intro v3 h3 q3
  obtain ⟨rfl, p3, k3⟩ := q3
  have R3 : LS h.size h3 l (looseA l).2 := R2.keep p3 k3
  have n3 := k3.1
  have eA : endP l minf (decide ((signP l [40, 91] (0, false)).1 = 91)) (blanksP l true (signP l [40, 91] (0, false)).2) = looseA l := rfl
  clear k3 p3
  rw [eA]
  repeat' (first
 | refine za ?_ | refine zb ?_ | refine zc ?_ | refine zd ?_ | refine ze ?_ | refine zf ?_ | refine zg ?_ | refine zh ?_ | (refine zi ?_; try refine RgD_plain rfl ?_) | refine w_drawn rfl ?_ | refine zj ?_ | refine zl ?_
 | ((first | apply zs | (apply zt; (focus rfl)) | (apply zu; (focus rfl)) | (apply zv; (focus rfl)) | apply zx | apply zy | apply zB | apply zC | apply zD | apply zE | apply zF); (focus ((conv => lhs; simp (disch := omega) [-env0_get, bound, List.getElem?_cons_zero, List.getElem?_cons_succ, odt, odf, oip, oin, obt, obf, ont, onf, wrapI, owu, ow8, ow32, otd, oe0, oe1, oe2, oe3, oe4, oe5, oe6, otn, ot1, ot2, ot4]); first | done | rfl)); first | apply zk | (apply zn; (focus rfl); try (focus (first | rfl | (simp; done)))) | (apply zo; (focus rfl)) | apply gv_u | apply gv_tt | apply gv_ff | apply gv_ft | apply gv_tf | (apply gv_split <;> intro hc <;> try simp only [decide_eq_true_eq, decide_eq_false_iff_not, beq_iff_eq, beq_eq_false_iff_ne, bne_iff_ne, bne_eq_false_iff_eq, Bool.not_true, Bool.not_false, ne_eq] at hc))
 | (simp (disch := omega) only [thenQ_normal, thenQ_exit, thenQ_ret, blockQ_normal, blockQ_ret, blockQ_exit_same, blockQ_exit_ne]))
  have R3' := R3.push (bO (looseA l).1)
  have a3 : (h3.push (bO (looseA l).1))[h3.size]? = some (bO (looseA l).1) := by simp
  have c3 := cellsAt_of R3'.c
  unfold bO at R3' a3 c3
  have n3' : (h3.push (.cells [.int .i64 (looseA l).1.1, .int .i64 (looseA l).1.2] 148)).size = h3.size + 1 := by simp
  generalize h3.push (.cells [.int .i64 (looseA l).1.1, .int .i64 (looseA l).1.2] 148) = g3 at *
  have x3 : h.size + 3 ≤ h3.size := by omega
  generalize h3.size = pa at *
  repeat' (first
 | refine za ?_ | refine zb ?_ | refine zc ?_ | refine zd ?_ | refine ze ?_ | refine zf ?_ | refine zg ?_ | refine zh ?_ | (refine zi ?_; try refine RgD_plain rfl ?_) | refine w_drawn rfl ?_ | refine zj ?_ | refine zl ?_
 | ((first | apply zs | (apply zt; (focus rfl)) | (apply zu; (focus rfl)) | (apply zv; (focus rfl)) | apply zx | apply zy | apply zB | apply zC | apply zD | apply zE | apply zF); (focus ((conv => lhs; simp (disch := omega) [-env0_get, bound, List.getElem?_cons_zero, List.getElem?_cons_succ, odt, odf, oip, oin, obt, obf, ont, onf, wrapI, owu, ow8, ow32, otd, oe0, oe1, oe2, oe3, oe4, oe5, oe6, otn, ot1, ot2, ot4, c3]); first | done | rfl)); first | apply zk | (apply zn; (focus rfl); try (focus (first | rfl | (simp [c3]; done)))) | (apply zo; (focus rfl)) | apply gv_u | apply gv_tt | apply gv_ff | apply gv_ft | apply gv_tf | (apply gv_split <;> intro hc <;> try simp only [decide_eq_true_eq, decide_eq_false_iff_not, beq_iff_eq, beq_eq_false_iff_ne, bne_iff_ne, bne_eq_false_iff_eq, Bool.not_true, Bool.not_false, ne_eq] at hc))
 | (simp (disch := omega) only [thenQ_normal, thenQ_exit, thenQ_ret, blockQ_normal, blockQ_ret, blockQ_exit_same, blockQ_exit_ne]))
  (apply zW; (focus ((conv => lhs; simp (disch := omega) [-env0_get, bound, List.getElem?_cons_zero, List.getElem?_cons_succ, odt, odf, oip, oin, obt, obf, ont, onf, wrapI, owu, ow8, ow32, otd, oe0, oe1, oe2, oe3, oe4, oe5, oe6, otn, ot1, ot2, ot4]); first | done | rfl)); (focus exact (blanks_R R3'.r (by omega) hl hls))); intro v4 h4 q4
  obtain ⟨rfl, p4, k4⟩ := q4
  have R4 := R3'.keep p4 k4
  have a4 := (k4.2 pa (by omega) (by simp; omega)).trans a3
  have n4 := k4.1
  clear k4 p4
  have c4 := cellsAt_of R4.c
  repeat' (first
 | refine za ?_ | refine zb ?_ | refine zc ?_ | refine zd ?_ | refine ze ?_ | refine zf ?_ | refine zg ?_ | refine zh ?_ | (refine zi ?_; try refine RgD_plain rfl ?_) | refine w_drawn rfl ?_ | refine zj ?_ | refine zl ?_
 | ((first | apply zs | (apply zt; (focus rfl)) | (apply zu; (focus rfl)) | (apply zv; (focus rfl)) | apply zx | apply zy | apply zB | apply zC | apply zD | apply zE | apply zF); (focus ((conv => lhs; simp (disch := omega) [-env0_get, bound, List.getElem?_cons_zero, List.getElem?_cons_succ, odt, odf, oip, oin, obt, obf, ont, onf, wrapI, owu, ow8, ow32, otd, oe0, oe1, oe2, oe3, oe4, oe5, oe6, otn, ot1, ot2, ot4, c4]); first | done | rfl)); first | apply zk | (apply zn; (focus rfl); try (focus (first | rfl | (simp [c4]; done)))) | (apply zo; (focus rfl)) | apply gv_u | apply gv_tt | apply gv_ff | apply gv_ft | apply gv_tf | (apply gv_split <;> intro hc <;> try simp only [decide_eq_true_eq, decide_eq_false_iff_not, beq_iff_eq, beq_eq_false_iff_ne, bne_iff_ne, bne_eq_false_iff_eq, Bool.not_true, Bool.not_false, ne_eq] at hc))
 | (simp (disch := omega) only [thenQ_normal, thenQ_exit, thenQ_ret, blockQ_normal, blockQ_ret, blockQ_exit_same, blockQ_exit_ne]))
  (apply zW; (focus ((conv => lhs; simp (disch := omega) [-env0_get, bound, List.getElem?_cons_zero, List.getElem?_cons_succ, odt, odf, oip, oin, obt, obf, ont, onf, wrapI, owu, ow8, ow32, otd, oe0, oe1, oe2, oe3, oe4, oe5, oe6, otn, ot1, ot2, ot4]); first | done | rfl)); (focus exact (sign_R (w := [44]) R4.r (by omega) hl (by simp) hs4))); intro v5 h5 q5
  obtain ⟨rfl, p5, k5⟩ := q5
  have R5 := R4.keep p5 k5
  have a5 := (k5.2 pa (by omega) (by simp; omega)).trans a4
  have n5 := k5.1
  clear k5 p5
  have c5 := cellsAt_of R5.c
  repeat' (first
 | refine za ?_ | refine zb ?_ | refine zc ?_ | refine zd ?_ | refine ze ?_ | refine zf ?_ | refine zg ?_ | refine zh ?_ | (refine zi ?_; try refine RgD_plain rfl ?_) | refine w_drawn rfl ?_ | refine zj ?_ | refine zl ?_
 | ((first | apply zs | (apply zt; (focus rfl)) | (apply zu; (focus rfl)) | (apply zv; (focus rfl)) | apply zx | apply zy | apply zB | apply zC | apply zD | apply zE | apply zF); (focus ((conv => lhs; simp (disch := omega) [-env0_get, bound, List.getElem?_cons_zero, List.getElem?_cons_succ, odt, odf, oip, oin, obt, obf, ont, onf, wrapI, owu, ow8, ow32, otd, oe0, oe1, oe2, oe3, oe4, oe5, oe6, otn, ot1, ot2, ot4, c5]); first | done | rfl)); first | apply zk | (apply zn; (focus rfl); try (focus (first | rfl | (simp [c5]; done)))) | (apply zo; (focus rfl)) | apply gv_u | apply gv_tt | apply gv_ff | apply gv_ft | apply gv_tf | (apply gv_split <;> intro hc <;> try simp only [decide_eq_true_eq, decide_eq_false_iff_not, beq_iff_eq, beq_eq_false_iff_ne, bne_iff_ne, bne_eq_false_iff_eq, Bool.not_true, Bool.not_false, ne_eq] at hc))
 | (simp (disch := omega) only [thenQ_normal, thenQ_exit, thenQ_ret, blockQ_normal, blockQ_ret, blockQ_exit_same, blockQ_exit_ne]))
  (apply zW; (focus ((conv => lhs; simp (disch := omega) [-env0_get, bound, List.getElem?_cons_zero, List.getElem?_cons_succ, odt, odf, oip, oin, obt, obf, ont, onf, wrapI, owu, ow8, ow32, otd, oe0, oe1, oe2, oe3, oe4, oe5, oe6, otn, ot1, ot2, ot4]); first | done | rfl)); (focus exact (blanks_R R5.r (by omega) hl hs5))); intro v6 h6 q6
  obtain ⟨rfl, p6, k6⟩ := q6
  have R6 : LS h.size h6 l (looseB l) := R5.keep p6 k6
  have a6 := (k6.2 pa (by omega) (by simp; omega)).trans a5
  have n6 := k6.1
  clear k6 p6
  have c6 := cellsAt_of R6.c
  have d6 := cellsAt_of (n := h.size + 1) R6.r
  repeat' (first
 | refine za ?_ | refine zb ?_ | refine zc ?_ | refine zd ?_ | refine ze ?_ | refine zf ?_ | refine zg ?_ | refine zh ?_ | (refine zi ?_; try refine RgD_plain rfl ?_) | refine w_drawn rfl ?_ | refine zj ?_ | refine zl ?_
 | ((first | apply zs | (apply zt; (focus rfl)) | (apply zu; (focus rfl)) | (apply zv; (focus rfl)) | apply zx | apply zy | apply zB | apply zC | apply zD | apply zE | apply zF); (focus ((conv => lhs; simp (disch := omega) [-env0_get, bound, List.getElem?_cons_zero, List.getElem?_cons_succ, odt, odf, oip, oin, obt, obf, ont, onf, wrapI, owu, ow8, ow32, otd, oe0, oe1, oe2, oe3, oe4, oe5, oe6, otn, ot1, ot2, ot4, c6, d6]); first | done | rfl)); first | apply zk | (apply zn; (focus rfl); try (focus (first | rfl | (simp [c6, d6]; done)))) | (apply zo; (focus rfl)) | apply gv_u | apply gv_tt | apply gv_ff | apply gv_ft | apply gv_tf | (apply gv_split <;> intro hc <;> try simp only [decide_eq_true_eq, decide_eq_false_iff_not, beq_iff_eq, beq_eq_false_iff_ne, bne_iff_ne, bne_eq_false_iff_eq, Bool.not_true, Bool.not_false, ne_eq] at hc))
 | (simp (disch := omega) only [thenQ_normal, thenQ_exit, thenQ_ret, blockQ_normal, blockQ_ret, blockQ_exit_same, blockQ_exit_ne]))
  (apply zW; (focus ((conv => lhs; simp (disch := omega) [-env0_get, bound, List.getElem?_cons_zero, List.getElem?_cons_succ, odt, odf, oip, oin, obt, obf, ont, onf, wrapI, owu, ow8, ow32, otd, oe0, oe1, oe2, oe3, oe4, oe5, oe6, otn, ot1, ot2, ot4]); first | done | rfl)); (focus exact (end_R (w := pinf) R6.r R6.c (by omega) (by omega) hl hB (by simp [pinf])))); intro v7 h7 q7
  obtain ⟨rfl, p7, k7⟩ := q7
  have R7 : LS h.size h7 l (looseC l).2 := R6.keep p7 k7
  have a7 := (k7.2 pa (by omega) (by simp; omega)).trans a6
  have n7 := k7.1
  clear k7 p7
  have eC : endP l pinf false (looseB l) = looseC l := rfl
  rw [eC]
  repeat' (first
 | refine za ?_ | refine zb ?_ | refine zc ?_ | refine zd ?_ | refine ze ?_ | refine zf ?_ | refine zg ?_ | refine zh ?_ | (refine zi ?_; try refine RgD_plain rfl ?_) | refine w_drawn rfl ?_ | refine zj ?_ | refine zl ?_
 | ((first | apply zs | (apply zt; (focus rfl)) | (apply zu; (focus rfl)) | (apply zv; (focus rfl)) | apply zx | apply zy | apply zB | apply zC | apply zD | apply zE | apply zF); (focus ((conv => lhs; simp (disch := omega) [-env0_get, bound, List.getElem?_cons_zero, List.getElem?_cons_succ, odt, odf, oip, oin, obt, obf, ont, onf, wrapI, owu, ow8, ow32, otd, oe0, oe1, oe2, oe3, oe4, oe5, oe6, otn, ot1, ot2, ot4]); first | done | rfl)); first | apply zk | (apply zn; (focus rfl); try (focus (first | rfl | (simp; done)))) | (apply zo; (focus rfl)) | apply gv_u | apply gv_tt | apply gv_ff | apply gv_ft | apply gv_tf | (apply gv_split <;> intro hc <;> try simp only [decide_eq_true_eq, decide_eq_false_iff_not, beq_iff_eq, beq_eq_false_iff_ne, bne_iff_ne, bne_eq_false_iff_eq, Bool.not_true, Bool.not_false, ne_eq] at hc))
 | (simp (disch := omega) only [thenQ_normal, thenQ_exit, thenQ_ret, blockQ_normal, blockQ_ret, blockQ_exit_same, blockQ_exit_ne]))
  have R7' := R7.push (bO (looseC l).1)
  have a7' : (h7.push (bO (looseC l).1))[pa]? = some (.cells [.int .i64 (looseA l).1.1, .int .i64 (looseA l).1.2] 148) := by rw [Array.getElem?_push, if_neg (by omega)]; exact a7
  have b7 : (h7.push (bO (looseC l).1))[h7.size]? = some (bO (looseC l).1) := by simp
  unfold bO at R7' a7' b7
  have n7' : (h7.push (.cells [.int .i64 (looseC l).1.1, .int .i64 (looseC l).1.2] 148)).size = h7.size + 1 := by simp
  generalize h7.push (.cells [.int .i64 (looseC l).1.1, .int .i64 (looseC l).1.2] 148) = g7 at *
  have x7 : pa + 1 ≤ h7.size := by omega
  generalize h7.size = pb at *
  have c7 := cellsAt_of R7'.c
  repeat' (first
 | refine za ?_ | refine zb ?_ | refine zc ?_ | refine zd ?_ | refine ze ?_ | refine zf ?_ | refine zg ?_ | refine zh ?_ | (refine zi ?_; try refine RgD_plain rfl ?_) | refine w_drawn rfl ?_ | refine zj ?_ | refine zl ?_
 | ((first | apply zs | (apply zt; (focus rfl)) | (apply zu; (focus rfl)) | (apply zv; (focus rfl)) | apply zx | apply zy | apply zB | apply zC | apply zD | apply zE | apply zF); (focus ((conv => lhs; simp (disch := omega) [-env0_get, bound, List.getElem?_cons_zero, List.getElem?_cons_succ, odt, odf, oip, oin, obt, obf, ont, onf, wrapI, owu, ow8, ow32, otd, oe0, oe1, oe2, oe3, oe4, oe5, oe6, otn, ot1, ot2, ot4, c7]); first | done | rfl)); first | apply zk | (apply zn; (focus rfl); try (focus (first | rfl | (simp [c7]; done)))) | (apply zo; (focus rfl)) | apply gv_u | apply gv_tt | apply gv_ff | apply gv_ft | apply gv_tf | (apply gv_split <;> intro hc <;> try simp only [decide_eq_true_eq, decide_eq_false_iff_not, beq_iff_eq, beq_eq_false_iff_ne, bne_iff_ne, bne_eq_false_iff_eq, Bool.not_true, Bool.not_false, ne_eq] at hc))
 | (simp (disch := omega) only [thenQ_normal, thenQ_exit, thenQ_ret, blockQ_normal, blockQ_ret, blockQ_exit_same, blockQ_exit_ne]))
  (apply zW; (focus ((conv => lhs; simp (disch := omega) [-env0_get, bound, List.getElem?_cons_zero, List.getElem?_cons_succ, odt, odf, oip, oin, obt, obf, ont, onf, wrapI, owu, ow8, ow32, otd, oe0, oe1, oe2, oe3, oe4, oe5, oe6, otn, ot1, ot2, ot4]); first | done | rfl)); (focus exact (blanks_R R7'.r (by omega) hl hhs))); intro v8 h8 q8
  obtain ⟨rfl, p8, k8⟩ := q8
  have R8 := R7'.keep p8 k8
  have a8 := (k8.2 pa (by omega) (by simp; omega)).trans a7'
  have b8 := (k8.2 pb (by omega) (by simp; omega)).trans b7
  have n8 := k8.1
  clear k8 p8
  have c8 := cellsAt_of R8.c
  repeat' (first
 | refine za ?_ | refine zb ?_ | refine zc ?_ | refine zd ?_ | refine ze ?_ | refine zf ?_ | refine zg ?_ | refine zh ?_ | (refine zi ?_; try refine RgD_plain rfl ?_) | refine w_drawn rfl ?_ | refine zj ?_ | refine zl ?_
 | ((first | apply zs | (apply zt; (focus rfl)) | (apply zu; (focus rfl)) | (apply zv; (focus rfl)) | apply zx | apply zy | apply zB | apply zC | apply zD | apply zE | apply zF); (focus ((conv => lhs; simp (disch := omega) [-env0_get, bound, List.getElem?_cons_zero, List.getElem?_cons_succ, odt, odf, oip, oin, obt, obf, ont, onf, wrapI, owu, ow8, ow32, otd, oe0, oe1, oe2, oe3, oe4, oe5, oe6, otn, ot1, ot2, ot4, c8]); first | done | rfl)); first | apply zk | (apply zn; (focus rfl); try (focus (first | rfl | (simp [c8]; done)))) | (apply zo; (focus rfl)) | apply gv_u | apply gv_tt | apply gv_ff | apply gv_ft | apply gv_tf | (apply gv_split <;> intro hc <;> try simp only [decide_eq_true_eq, decide_eq_false_iff_not, beq_iff_eq, beq_eq_false_iff_ne, bne_iff_ne, bne_eq_false_iff_eq, Bool.not_true, Bool.not_false, ne_eq] at hc))
 | (simp (disch := omega) only [thenQ_normal, thenQ_exit, thenQ_ret, blockQ_normal, blockQ_ret, blockQ_exit_same, blockQ_exit_ne]))
  (apply zW; (focus ((conv => lhs; simp (disch := omega) [-env0_get, bound, List.getElem?_cons_zero, List.getElem?_cons_succ, odt, odf, oip, oin, obt, obf, ont, onf, wrapI, owu, ow8, ow32, otd, oe0, oe1, oe2, oe3, oe4, oe5, oe6, otn, ot1, ot2, ot4]); first | done | rfl)); (focus exact (sign_R (w := [41, 93]) R8.r (by omega) hl (by simp) hs8))); intro v9 h9 q9
  obtain ⟨rfl, p9, k9⟩ := q9
  have R9 : LS h.size h9 l (looseD l).2 := R8.keep p9 k9
  have a9 := (k9.2 pa (by omega) (by simp; omega)).trans a8
  have b9 := (k9.2 pb (by omega) (by simp; omega)).trans b8
  have n9 := k9.1
  clear k9 p9
  have eD : signP l [41, 93] (blanksP l true (looseC l).2) = looseD l := rfl
  rw [eD]
  have c9 := cellsAt_of R9.c
  have a9c := cellsAt_of a9
  have b9c := cellsAt_of b9
  have hd9 : (looseD l).1 ≤ 255 := by
    show (signP l [41, 93] (blanksP l true (looseC l).2)).1 ≤ 255
    unfold signP; split
    · simp
    · split
      · split
        · simp only; have := (‹UInt8›).toNat_lt; omega
        · simp
      · simp
  have zl := lt_of R9.z
  by_cases hh : (looseD l).1 = 93 ∧ (looseC l).1.1 = 1
  · have eH : highL l = (2, (looseC l).1.2) := if_pos hh
    obtain ⟨hh1, hh2⟩ := hh
    have R9' := R9.set (b := pb) (x := .cells [.int .i64 2, .int .i64 (looseC l).1.2] 148) (by omega)
    have eP : looseP l = toldP (looseD l).2 (looseA l).1.1 (looseA l).1.2 2 (looseC l).1.2 (looseB l).1 := by unfold looseP; rw [eH]
    rw [eP]
    have nab : ¬ pa = pb := by omega
    have nab' : ¬ pb = pa := by omega
    repeat' (first
 | refine za ?_ | refine zb ?_ | refine zc ?_ | refine zd ?_ | refine ze ?_ | refine zf ?_ | refine zg ?_ | refine zh ?_ | (refine zi ?_; try refine RgD_plain rfl ?_) | refine w_drawn rfl ?_ | refine zj ?_ | refine zl ?_
 | ((first | apply zs | (apply zt; (focus rfl)) | (apply zu; (focus rfl)) | (apply zv; (focus rfl)) | apply zw | apply zx | apply zy | apply zB | apply zC | apply zD | apply zE | apply zF); (focus ((conv => lhs; simp (disch := omega) [-env0_get, bound, List.getElem?_cons_zero, List.getElem?_cons_succ, odt, odf, oip, oin, obt, obf, ont, onf, wrapI, owu, ow8, ow32, otd, oe0, oe1, oe2, oe3, oe4, oe5, oe6, otn, ot1, ot2, ot4, c9, a9c, b9c, wr_def b9, wr_def R9'.z, hh1, hh2, nab, nab']); first | done | rfl)); first | apply zk | (apply zn; (focus rfl); try (focus (first | rfl | (simp [c9, a9c, b9c, wr_def b9, wr_def R9'.z, hh1, hh2, nab, nab']; done)))) | (apply zo; (focus rfl)) | apply gv_u | apply gv_tt | apply gv_ff | apply gv_ft | apply gv_tf | (apply gv_split <;> intro hc <;> try simp only [decide_eq_true_eq, decide_eq_false_iff_not, beq_iff_eq, beq_eq_false_iff_ne, bne_iff_ne, bne_eq_false_iff_eq, Bool.not_true, Bool.not_false, ne_eq] at hc) | exact (told_runs R9'.r hlk (by omega) hla hha))
 | (simp (disch := omega) only [thenQ_normal, thenQ_exit, thenQ_ret, blockQ_normal, blockQ_ret, blockQ_exit_same, blockQ_exit_ne]))
  · have eH : highL l = (looseC l).1 := if_neg hh
    have eP : looseP l = toldP (looseD l).2 (looseA l).1.1 (looseA l).1.2 (looseC l).1.1 (looseC l).1.2 (looseB l).1 := by unfold looseP; rw [eH]
    rw [eP]
    repeat' (first
 | refine za ?_ | refine zb ?_ | refine zc ?_ | refine zd ?_ | refine ze ?_ | refine zf ?_ | refine zg ?_ | refine zh ?_ | (refine zi ?_; try refine RgD_plain rfl ?_) | refine w_drawn rfl ?_ | refine zj ?_ | refine zl ?_
 | ((first | apply zs | (apply zt; (focus rfl)) | (apply zu; (focus rfl)) | (apply zv; (focus rfl)) | apply zw | apply zx | apply zy | apply zB | apply zC | apply zD | apply zE | apply zF); (focus ((conv => lhs; simp (disch := omega) [-env0_get, bound, List.getElem?_cons_zero, List.getElem?_cons_succ, odt, odf, oip, oin, obt, obf, ont, onf, wrapI, owu, ow8, ow32, otd, oe0, oe1, oe2, oe3, oe4, oe5, oe6, otn, ot1, ot2, ot4, c9, a9c, b9c, wr_def b9, wr_def R9.z]); first | done | rfl)); first | apply zk | (apply zn; (focus rfl); try (focus (first | rfl | (simp [c9, a9c, b9c, wr_def b9, wr_def R9.z]; done)))) | (apply zo; (focus rfl)) | apply gv_u | apply gv_tt | apply gv_ff | apply gv_ft | apply gv_tf | (apply gv_split <;> intro hc <;> try simp only [decide_eq_true_eq, decide_eq_false_iff_not, beq_iff_eq, beq_eq_false_iff_ne, bne_iff_ne, bne_eq_false_iff_eq, Bool.not_true, Bool.not_false, ne_eq] at hc) | exact (told_runs R9.r hlk hhk hla hha))
 | (simp (disch := omega) only [thenQ_normal, thenQ_exit, thenQ_ret, blockQ_normal, blockQ_ret, blockQ_exit_same, blockQ_exit_ne]))
    all_goals (exfalso; apply hh; constructor <;> omega)
end Go.Proofs.Ytlgbeekhaoiggaa
end

section
namespace Go.Proofs.Ytlgbeekhaoiggaa
open Go.AM
theorem signP_t (l w : List UInt8) (i : Nat) : signP l w (i, true) = (0, (i, true)) := rfl
theorem wordP_t (l w : List UInt8) (i : Nat) : wordP l w (i, true) = (false, (i, true)) := by simp [wordP]
theorem numP_t (rd : List UInt8 → Int × Nat) (l : List UInt8) (i : Nat) : numP rd l (i, true) = (0, (i, true)) := rfl
theorem bl_t (l : List UInt8) (i : Nat) : bl l (i, true) = (i, true) := by simp [bl, blanksP]
theorem bl_f (l : List UInt8) (i : Nat) : bl l (i, false) = (sk true l i, false) := by simp [bl, blanksP, sk]
theorem signP_1 (l : List UInt8) (c : UInt8) (i : Nat) : signP l [c] (i, false) = if isAt l i [c] = true then (c.toNat, (i + 1, false)) else (0, (i, true)) := by
  unfold signP
  simp only [Bool.false_eq_true, if_false]
  cases hb : l[i]? with
  | none => rw [if_neg (by rw [isAt_1, hb]; simp)]
  | some b =>
    by_cases hc : b = c
    · subst hc; simp [isAt_1, hb]
    · rw [if_neg (by rw [isAt_1, hb]; simpa using hc)]; simp [hc]
theorem signP_2 (l : List UInt8) (c d : UInt8) (i : Nat) : signP l [c, d] (i, false) = if isAt l i [c] = true then (c.toNat, (i + 1, false)) else if isAt l i [d] = true then (d.toNat, (i + 1, false)) else (0, (i, true)) := by
  unfold signP
  simp only [Bool.false_eq_true, if_false]
  cases hb : l[i]? with
  | none => rw [if_neg (by rw [isAt_1, hb]; simp), if_neg (by rw [isAt_1, hb]; simp)]
  | some b =>
    by_cases hc : b = c
    · subst hc; simp [isAt_1, hb]
    · rw [if_neg (by rw [isAt_1, hb]; simpa using hc)]
      by_cases hd : b = d
      · subst hd; simp [isAt_1, hb]
      · rw [if_neg (by rw [isAt_1, hb]; simpa using hd)]; simp [hc, hd]
theorem wordP_f {l w : List UInt8} {i : Nat} (hi : i ≤ l.length) : wordP l w (i, false) = if isAt l i w = true then (true, (i + w.length, false)) else (false, (i, false)) := by
  unfold wordP isAt
  by_cases h : (l.drop i).take w.length = w
  · rw [if_pos ⟨rfl, h, hi⟩, if_pos (decide_eq_true h)]
  · rw [if_neg (fun q => h q.2.1), if_neg (by simp [h])]
theorem numP_f (rd : List UInt8 → Int × Nat) (l : List UInt8) (i : Nat) : numP rd l (i, false) = ((rd (l.drop i)).1, (i + (rd (l.drop i)).2, (rd (l.drop i)).2 == 0)) := rfl
theorem plain_minf {l : List UInt8} {i : Nat} (h : isAt l i minf = true) : plainR (l.drop i) = (0, 0) := by
  have h' : (l.drop i).take 4 = minf := of_decide_eq_true h
  unfold plainR
  rw [cutR_inf (.inl ⟨rfl, rfl⟩) h', if_neg (by simp)]
theorem told_t (i at_ : Nat) (a b c d : Int) : toldP (i, true) a b c d at_ = badN i := rfl
theorem told_f (i at_ : Nat) (a b c d : Int) : toldP (i, false) a b c d at_ = if (spanB a b c d).2 = 0 then ((spanB a b c d).1, i, 0) else (sp0, at_, (spanB a b c d).2) := rfl
def T2 (l : List UInt8) (low : Int × Int) (s : St) : Sp × Nat × Int := toldP (signP l [41] (highP l s).2).2 low.1 low.2 (highP l s).1.1 (highP l s).1.2 s.1
theorem T2_t (l : List UInt8) (low : Int × Int) (i : Nat) : T2 l low (i, true) = badN i := by
  unfold T2 highP
  simp only [wordP_t, Bool.false_eq_true, if_false, numP_t, signP_t, told_t]
theorem T2_f {l : List UInt8} {low : Int × Int} {i : Nat} (hi : i ≤ l.length) : T2 l low (i, false) = readC false l low i := by
  unfold T2 highP readC endN
  rw [wordP_f hi]
  by_cases h : isAt l i pinf = true
  · simp only [if_pos h, if_true, readD, sk, Bool.false_eq_true, if_false, Bool.false_and, and_false, show pinf.length = 4 from rfl, signP_1]
    by_cases h2 : isAt l (i + 4) [41] = true
    · rw [if_pos h2, if_neg (by simp [h2])]; simp only [told_f]
    · rw [if_neg h2, if_pos ⟨trivial, by simpa using h2⟩]; simp only [told_t]
  · simp only [if_neg h, Bool.false_eq_true, if_false, numP_f]
    by_cases hz : (plainR (l.drop i)).2 = 0
    · simp only [hz, if_true, Nat.add_zero, beq_self_eq_true, signP_t, told_t]
    · simp only [hz, if_false, beq_eq_false_iff_ne.2 hz, readD, sk, Bool.false_eq_true, Bool.false_and, and_false, signP_1]
      by_cases h2 : isAt l (i + (plainR (l.drop i)).2) [41] = true
      · rw [if_pos h2, if_neg (by simp [h2])]; simp only [told_f]
      · rw [if_neg h2, if_pos ⟨trivial, by simpa using h2⟩]; simp only [told_t]
theorem T1_f {l : List UInt8} {low : Int × Int} {i : Nat} (hi : i ≤ l.length) : T2 l low (signP l [44] (i, false)).2 = readB false l low i := by
  rw [signP_1]
  unfold readB
  by_cases h : isAt l i [44] = true
  · have := isAt_len h (by simp)
    simp only [if_pos h, sk, Bool.false_eq_true, if_false]
    exact T2_f (by simpa using this)
  · simp only [if_neg h]; exact T2_t l low i
theorem readP_eq (l : List UInt8) : readP l = readN false l := by
  have e : readP l = T2 l (lowP l).1 (signP l [44] (lowP l).2).2 := rfl
  rw [e]
  unfold readN lowP
  rw [signP_2]
  by_cases h40 : isAt l 0 [40] = true
  · have hl := isAt_len h40 (by simp)
    simp at hl
    have hn : ¬(isAt l 0 [40] = false ∧ isAt l 0 [91] = false) := by simp [h40]
    simp only [if_neg hn, if_pos h40, show (40 : UInt8).toNat = 40 from rfl, if_true, Nat.zero_add]
    rw [wordP_f (by omega)]
    unfold readA
    by_cases hm : isAt l 1 minf = true
    · have := isAt_len hm (by simp [minf])
      simp only [if_pos hm, sk, Bool.false_eq_true, if_false, h40, hm, ne_eq, not_true_eq_false, and_false, endN, if_true, show minf.length = 4 from rfl, Bool.not_true, show ¬ (0 : Int) = 1 by omega, false_and]
      exact T1_f (by simpa [minf] using this)
    · simp only [if_neg hm, sk, Bool.false_eq_true, if_false, h40, ne_eq, Bool.not_false, signP_t, T2_t]
      rw [if_pos ⟨trivial, fun q => hm q.symm⟩]
  · simp only [Bool.not_eq_true] at h40
    simp only [h40, Bool.false_eq_true, if_false, true_and]
    by_cases h91 : isAt l 0 [91] = true
    · have hl := isAt_len h91 (by simp)
      simp at hl
      simp only [h91, if_true, show (91 : UInt8).toNat = 91 from rfl, show ¬ (91 = 40) by omega, if_false, Bool.true_eq_false, numP_f, sk, Bool.false_eq_true, Nat.zero_add]
      unfold readA
      by_cases hm : isAt l 1 minf = true
      · rw [plain_minf hm, if_pos ⟨rfl, by simp [hm]⟩]
        simp only [Nat.add_zero, beq_self_eq_true, signP_t, T2_t]
      · simp only [Bool.not_eq_true] at hm
        simp only [hm, ne_eq, not_true_eq_false, and_false, if_false, endN, Bool.false_eq_true]
        by_cases hz : (plainR (l.drop 1)).2 = 0
        · simp only [hz, if_true, Nat.add_zero, beq_self_eq_true, signP_t, T2_t]
        · have hpl := plainR_len (l := l.drop 1)
          rw [List.length_drop] at hpl
          simp only [hz, if_false, beq_eq_false_iff_ne.2 hz, sk, Bool.false_eq_true, and_self, if_true]
          exact T1_f (by omega)
    · simp only [Bool.not_eq_true] at h91
      simp only [h91, Bool.false_eq_true, if_false, if_true, show ¬ (0 = 40) by omega, numP_t, signP_t, T2_t]
def highM (d : Nat) (c : Int × Int) : Int × Int := if d = 93 ∧ c.1 = 1 then (2, c.2) else c
def L2 (l : List UInt8) (low : Int × Int) (s : St) : Sp × Nat × Int :=
  toldP (signP l [41, 93] (bl l (endP l pinf false s).2)).2 low.1 low.2 (highM (signP l [41, 93] (bl l (endP l pinf false s).2)).1 (endP l pinf false s).1).1 (highM (signP l [41, 93] (bl l (endP l pinf false s).2)).1 (endP l pinf false s).1).2 s.1
theorem L2_t (l : List UInt8) (low : Int × Int) (i : Nat) : L2 l low (i, true) = badN i := by
  unfold L2 endP
  simp only [wordP_t, Bool.false_eq_true, if_false, numP_t, bl_t, signP_t, told_t]
theorem L3 {l : List UInt8} {low high : Int × Int} {i j : Nat} : toldP (signP l [41, 93] (j, false)).2 low.1 low.2 (highM (signP l [41, 93] (j, false)).1 high).1 (highM (signP l [41, 93] (j, false)).1 high).2 i = readD true l low high i j := by
  rw [signP_2]
  unfold readD
  by_cases h41 : isAt l j [41] = true
  · have h93 : isAt l j [93] = false := by
      rw [isAt_1] at h41
      cases hq : isAt l j [93]
      · rfl
      · rw [isAt_1, h41] at hq; simp at hq
    simp only [h41, h93, if_true, Bool.true_and, Bool.true_eq_false, and_false, if_false, Bool.false_eq_true, told_f, highM, show (41 : UInt8).toNat = 41 from rfl, show ¬ (41 = 93) by omega, false_and]
  · simp only [Bool.not_eq_true] at h41
    by_cases h93 : isAt l j [93] = true
    · simp only [h41, h93, Bool.false_eq_true, if_false, if_true, Bool.true_and, Bool.true_eq_false, false_and, told_f, highM, show (93 : UInt8).toNat = 93 from rfl, true_and, and_true]
      by_cases hk : high.1 = 1
      · simp only [hk, if_true]
      · simp only [hk, if_false]
    · simp only [Bool.not_eq_true] at h93
      simp only [h41, h93, Bool.false_eq_true, if_false, Bool.true_and, and_self, if_true, told_t]
theorem L2_f {l : List UInt8} {low : Int × Int} {i : Nat} (hi : i ≤ l.length) : L2 l low (i, false) = readC true l low i := by
  unfold L2 readC endP endN
  rw [wordP_f hi]
  by_cases h : isAt l i pinf = true
  · simp only [if_pos h, if_true, show pinf.length = 4 from rfl, bl_f]
    exact L3
  · simp only [if_neg h, Bool.false_eq_true, if_false, numP_f, if_true]
    by_cases hz : (satRead (l.drop i)).2 = 0
    · simp only [hz, if_true, Nat.add_zero, beq_self_eq_true, bl_t, signP_t, told_t]
    · simp only [hz, if_false, beq_eq_false_iff_ne.2 hz, bl_f]
      exact L3
theorem L1_f {l : List UInt8} {low : Int × Int} {j : Nat} (hj : j ≤ l.length) : L2 l low (bl l (signP l [44] (bl l (j, false))).2) = readB true l low (sk true l j) := by
  have hi := sk_le (lo := true) hj
  rw [bl_f, signP_1]
  unfold readB
  by_cases h : isAt l (sk true l j) [44] = true
  · have := isAt_len h (by simp)
    simp at this
    simp only [if_pos h, bl_f]
    exact L2_f (sk_le (by omega))
  · simp only [if_neg h, bl_t]; exact L2_t l low _
theorem looseP_eq (l : List UInt8) : looseP l = readN true l := by
  have e : looseP l = L2 l (looseA l).1 (bl l (signP l [44] (bl l (looseA l).2)).2) := rfl
  rw [e]
  have main : ∀ (cl op : Bool), (cl = !op) → 1 ≤ l.length → L2 l (endP l minf cl (bl l (1, false))).1 (bl l (signP l [44] (bl l (endP l minf cl (bl l (1, false))).2)).2) = readA true l op (sk true l 1) := by
    intro cl op hco hl
    have hi := sk_le (lo := true) hl
    rw [bl_f]
    generalize sk true l 1 = i at hi ⊢
    unfold endP readA endN
    rw [wordP_f hi]
    by_cases hm : isAt l i minf = true
    · have := isAt_len hm (by simp [minf])
      simp only [if_pos hm, if_true, Bool.true_eq_false, false_and, if_false, show minf.length = 4 from rfl, show ¬ (0 : Int) = 1 by omega]
      exact L1_f (by simpa [minf] using this)
    · simp only [if_neg hm, Bool.false_eq_true, if_false, numP_f, Bool.true_eq_false, false_and, if_true]
      by_cases hz : (satRead (l.drop i)).2 = 0
      · simp only [hz, if_true, Nat.add_zero, beq_self_eq_true, bl_t, signP_t, L2_t]
      · have hpl := sat_len (l := l.drop i)
        simp at hpl
        simp only [hz, if_false, beq_eq_false_iff_ne.2 hz]
        rw [L1_f (by omega)]
        congr 1
        subst hco
        cases op <;> simp
  unfold readN looseA
  rw [signP_2]
  by_cases h40 : isAt l 0 [40] = true
  · have hl := isAt_len h40 (by simp)
    simp at hl
    have hn : ¬(isAt l 0 [40] = false ∧ isAt l 0 [91] = false) := by simp [h40]
    simp only [if_neg hn, if_pos h40, show (40 : UInt8).toNat = 40 from rfl, Nat.zero_add]
    rw [main _ true (by simp) (by omega), h40]
  · simp only [Bool.not_eq_true] at h40
    simp only [h40, Bool.false_eq_true, if_false, true_and]
    by_cases h91 : isAt l 0 [91] = true
    · have hl := isAt_len h91 (by simp)
      simp at hl
      simp only [h91, if_true, show (91 : UInt8).toNat = 91 from rfl, Bool.true_eq_false, if_false, Nat.zero_add]
      rw [main _ false (by simp) (by omega)]
    · simp only [Bool.not_eq_true] at h91
      simp only [h91, Bool.false_eq_true, if_false, if_true, bl_t, endP, wordP_t, numP_t, signP_t, L2_t]
end Go.Proofs.Ytlgbeekhaoiggaa
end
