import Derived.Test.YtlgbeekhaoiggaaCodeB
import Derived.Test.YtlgbeekhaoiggaaCodeA
set_option linter.all false
section
namespace Go.Proofs.Ytlgbeekhaoiggaa
open Go.AM
set_option maxHeartbeats 4000000
variable {f : Nat} {h : Heap}
end Go.Proofs.Ytlgbeekhaoiggaa
end

section
namespace Go.Proofs.Ytlgbeekhaoiggaa
open Go.AM
set_option maxHeartbeats 4000000
variable {f : Nat} {h : Heap}
def minf : List UInt8 := [45, 105, 110, 102]
def pinf : List UInt8 := [43, 105, 110, 102]
theorem begins_runs {l w : List UInt8} (hl : l.length ≤ 1000000) (hw : w.length ≤ 1000) : Runs X ⟨f, []⟩ 184 [sv l, sv w] h (.bool (decide (l.take w.length = w))) h := by
  refine Runs_of rfl f184_is ?_
  simp only [f184r0, f184r1, f184b]
  by_cases hlt : w.length ≤ l.length
  · repeat' (first
 | refine za ?_ | refine zb ?_ | refine zc ?_ | refine zd ?_ | refine ze ?_ | refine zf ?_ | refine zg ?_ | refine zh ?_ | (refine zi ?_; try refine RgD_plain rfl ?_) | refine w_drawn rfl ?_ | refine zj ?_ | refine zl ?_
 | ((first | apply zs | (apply zt; (focus rfl)) | (apply zu; (focus rfl)) | (apply zv; (focus rfl)) | apply zx | apply zy | apply zB | apply zC | apply zD | apply zE | apply zF); (focus ((conv => lhs; simp (disch := omega) [-env0_get, bound, List.getElem?_cons_zero, List.getElem?_cons_succ, odt, odf, oip, oin, obt, obf, ont, onf, wrapI, owu, ow8, ow32, otd, oe0, oe1, oe2, oe3, oe4, oe5, oe6, otn, ot1, ot2, ot4]); first | done | rfl)); first | apply zk | (apply zn; (focus rfl); try (focus (first | rfl | (simp; done)))) | (apply zo; (focus rfl)) | apply gv_u | apply gv_tt | apply gv_ff | apply gv_ft | apply gv_tf | (apply gv_split <;> intro hc <;> try simp only [decide_eq_true_eq, decide_eq_false_iff_not, beq_iff_eq, beq_eq_false_iff_ne, bne_iff_ne, bne_eq_false_iff_eq, Bool.not_true, Bool.not_false, ne_eq] at hc))
 | (simp (disch := omega) only [thenQ_normal, thenQ_exit, thenQ_ret, blockQ_normal, blockQ_ret, blockQ_exit_same, blockQ_exit_ne]))
    simp [tup]
    by_cases hq : l.take w.length = w <;> simp [hq]
  · have : ¬ l.take w.length = w := fun q => by have := congrArg List.length q; simp at this; omega
    simp only [this, decide_false]
    repeat' (first
 | refine za ?_ | refine zb ?_ | refine zc ?_ | refine zd ?_ | refine ze ?_ | refine zf ?_ | refine zg ?_ | refine zh ?_ | (refine zi ?_; try refine RgD_plain rfl ?_) | refine w_drawn rfl ?_ | refine zj ?_ | refine zl ?_
 | ((first | apply zs | (apply zt; (focus rfl)) | (apply zu; (focus rfl)) | (apply zv; (focus rfl)) | apply zx | apply zy | apply zB | apply zC | apply zD | apply zE | apply zF); (focus ((conv => lhs; simp (disch := omega) [-env0_get, bound, List.getElem?_cons_zero, List.getElem?_cons_succ, odt, odf, oip, oin, obt, obf, ont, onf, wrapI, owu, ow8, ow32, otd, oe0, oe1, oe2, oe3, oe4, oe5, oe6, otn, ot1, ot2, ot4]); first | done | rfl)); first | apply zk | (apply zn; (focus rfl); try (focus (first | rfl | (simp; done)))) | (apply zo; (focus rfl)) | apply gv_u | apply gv_tt | apply gv_ff | apply gv_ft | apply gv_tf | (apply gv_split <;> intro hc <;> try simp only [decide_eq_true_eq, decide_eq_false_iff_not, beq_iff_eq, beq_eq_false_iff_ne, bne_iff_ne, bne_eq_false_iff_eq, Bool.not_true, Bool.not_false, ne_eq] at hc))
 | (simp (disch := omega) only [thenQ_normal, thenQ_exit, thenQ_ret, blockQ_normal, blockQ_ret, blockQ_exit_same, blockQ_exit_ne]))
def parseC (l : List UInt8) : Option (Int × Int) :=
  if l = minf then some (-1, 0) else if l = pinf then some (1, 0) else match parseN l with
    | some n => if n = -9223372036854775808 then none else some (0, n)
    | none => none
def cutR (l : List UInt8) : (Int × Int) × Nat := (longest parseC l (min 20 l.length)).getD ((0, 0), 0)
theorem longest_take {α : Type} {p : List UInt8 → Option α} {l : List UInt8} {m : Nat} : ∀ {n : Nat}, n ≤ m → longest p (l.take m) n = longest p l n
  | 0, _ => rfl
  | n + 1, h => by
    rw [longest, longest, List.take_take, Nat.min_eq_left h, longest_take (by omega)]
theorem longest_seg {α : Type} {p : List UInt8 → Option α} {l : List UInt8} {k : Nat} : ∀ {n : Nat}, k ≤ n → (∀ m, k < m → m ≤ n → p (l.take m) = none) → longest p l n = longest p l k
  | 0, h, _ => by rw [show k = 0 by omega]
  | n + 1, h, hm => by
    by_cases hk : k = n + 1
    · rw [hk]
    · rw [longest, hm (n + 1) (by omega) (by omega)]; exact longest_seg (by omega) (fun m a b => hm m a (by omega))
theorem longest_inv {α : Type} {p : List UInt8 → Option α} {l : List UInt8} {x : α} {k : Nat} : ∀ {n : Nat}, longest p l n = some (x, k) → 1 ≤ k ∧ k ≤ n ∧ p (l.take k) = some x ∧ ∀ m, k < m → m ≤ n → p (l.take m) = none
  | 0, h => by simp [longest] at h
  | n + 1, h => by
    rw [longest] at h
    cases hp : p (l.take (n + 1)) with
    | some y => rw [hp] at h; cases h; exact ⟨by omega, by omega, hp, fun m a b => by omega⟩
    | none =>
      rw [hp] at h
      obtain ⟨q1, q2, q3, q4⟩ := longest_inv h
      exact ⟨q1, by omega, q3, fun m a b => by
        by_cases hm : m = n + 1
        · subst hm; exact hp
        · exact q4 m a (by omega)⟩
theorem longest_none_inv {α : Type} {p : List UInt8 → Option α} {l : List UInt8} : ∀ {n : Nat}, longest p l n = none → ∀ m, 1 ≤ m → m ≤ n → p (l.take m) = none
  | 0, _, m, a, b => by omega
  | n + 1, h, m, a, b => by
    rw [longest] at h
    cases hp : p (l.take (n + 1)) with
    | some y => rw [hp] at h; cases h
    | none =>
      rw [hp] at h
      by_cases hm : m = n + 1
      · subst hm; exact hp
      · exact longest_none_inv h m a (by omega)
theorem parseN_inf {l w : List UInt8} (hw : w = minf ∨ w = pinf) (hl : l.take 4 = w) (m : Nat) (hm : 4 ≤ m) : parseN (l.take m) = none := by
  obtain ⟨t, rfl⟩ : ∃ t, l = w ++ t := ⟨l.drop 4, by rw [← hl]; exact (List.take_append_drop 4 l).symm⟩
  obtain ⟨m, rfl⟩ : ∃ q, m = q + 4 := ⟨m - 4, by omega⟩
  have hd : ∀ x : List UInt8, ¬ digOk True (105 :: x) := fun x q => by have := (q.1 105 (by simp)); unfold isDig at this; simp at this
  have hd2 : ∀ x : List UInt8, ¬ digOk False (43 :: x) := fun x q => by have := (q.1 43 (by simp)); unfold isDig at this; simp at this
  rcases hw with rfl | rfl
  · rw [show (minf ++ t).take (m + 4) = 45 :: 105 :: 110 :: 102 :: t.take m by simp [minf]]
    unfold parseN; rw [if_pos (by rfl)]; exact if_neg (hd _)
  · rw [show (pinf ++ t).take (m + 4) = 43 :: 105 :: 110 :: 102 :: t.take m by simp [pinf]]
    unfold parseN; rw [if_neg (by simp)]; exact if_neg (hd2 _)
theorem cutR_inf {l w : List UInt8} {s : Int} (hw : w = minf ∧ s = -1 ∨ w = pinf ∧ s = 1) (hl : l.take 4 = w) : cutR l = ((s, 0), 4) := by
  have hwl : w.length = 4 := by rcases hw with ⟨rfl, _⟩ | ⟨rfl, _⟩ <;> rfl
  have h4 : 4 ≤ l.length := by have := congrArg List.length hl; simp [hwl] at this; omega
  unfold cutR
  rw [longest_eq (k := 4) (x := (s, 0)) (by omega) (by omega)]
  · rfl
  · rw [hl]; rcases hw with ⟨rfl, rfl⟩ | ⟨rfl, rfl⟩
    · rfl
    · unfold parseC; rw [if_neg (by decide), if_pos rfl]
  · intro m h1 h2
    have hlen : (l.take m).length = m := by simp; omega
    unfold parseC
    rw [if_neg (fun q => by rw [q] at hlen; simp [minf] at hlen; omega), if_neg (fun q => by rw [q] at hlen; simp [pinf] at hlen; omega), parseN_inf (w := w) (by rcases hw with ⟨q, _⟩ | ⟨q, _⟩ <;> simp [q]) hl m (by omega)]
theorem parseC_num {l : List UInt8} (h1 : ¬ l.take 4 = minf) (h2 : ¬ l.take 4 = pinf) (m : Nat) (hm : m ≤ l.length) : parseC (l.take m) = match parseN (l.take m) with
    | some n => if n = -9223372036854775808 then none else some (0, n)
    | none => none := by
  unfold parseC
  have key : ∀ w : List UInt8, w.length = 4 → ¬ l.take 4 = w → ¬ l.take m = w := fun w hw hn q => by
    have : m = 4 := by have := congrArg List.length q; simp [hw] at this; omega
    subst this; exact hn q
  rw [if_neg (key _ rfl h1), if_neg (key _ rfl h2)]
theorem cutRead_loop {h : Heap} {l : List UInt8} {Q : AExit → Env → Heap → Prop} (hl : l.length ≤ 900000) (h1 : ¬ l.take 4 = minf) (h2 : ¬ l.take 4 = pinf)
    (K : ∀ env n k, cutR l = ((0, if k = 0 then 0 else n), k) → env 2 = .pointer (some ⟨h.size - 1, 0, none⟩) → env 4 = .int .i64 n → env 5 = .int .i64 (k : Nat) → Q (.exit 1) env h) :
    ∀ env, env 0 = sv l → env 2 = .pointer (some ⟨h.size - 1, 0, none⟩) → env 4 = .int .i64 (satRead l).1 → env 5 = .int .i64 (satRead l).2 → Ok X ⟨f, []⟩ (.loop f169l8) env h Q := by
  intro env e0 e2 e4 e5
  refine w_loop (A := Nat) (fun m env h' => h' = h ∧ env 0 = sv l ∧ env 2 = .pointer (some ⟨h.size - 1, 0, none⟩) ∧ env 4 = .int .i64 (satRead (l.take m)).1 ∧ env 5 = .int .i64 (satRead (l.take m)).2 ∧ m ≤ l.length ∧ longest parseC l (min 20 m) = longest parseC l (min 20 l.length)) (fun m => m) (a0 := l.length) ⟨rfl, e0, e2, by rw [List.take_length]; exact e4, by rw [List.take_length]; exact e5, by omega, rfl⟩ ?_
  clear e0 e2 e4 e5
  rintro m env h' ⟨rfl, e0, e2, e4, e5, hm, hL⟩
  simp only [f169l8, f169r6, f169r7]
  have hs := satRead_longest (l.take m)
  rw [List.length_take, Nat.min_eq_left hm, longest_take (by omega)] at hs
  have hlen := sat_len (l := l.take m)
  rw [List.length_take, Nat.min_eq_left hm] at hlen
  have hpc := parseC_num h1 h2
  generalize hr : satRead (l.take m) = r at *
  obtain ⟨n, k⟩ := r
  simp only at hs hlen e4 e5
  by_cases hk : k = 0
  · subst hk
    rw [if_pos rfl] at hs
    repeat' (first
 | refine za ?_ | refine zb ?_ | refine zc ?_ | refine zd ?_ | refine ze ?_ | refine zf ?_ | refine zg ?_ | refine zh ?_ | (refine zi ?_; try refine RgD_plain rfl ?_) | refine w_drawn rfl ?_ | refine zj ?_ | refine zl ?_
 | ((first | apply zs | (apply zt; (focus rfl)) | (apply zu; (focus rfl)) | (apply zv; (focus rfl)) | apply zx | apply zy | apply zB | apply zC | apply zD | apply zE | apply zF); (focus ((conv => lhs; simp (disch := omega) [-env0_get, bound, List.getElem?_cons_zero, List.getElem?_cons_succ, odt, odf, oip, oin, obt, obf, ont, onf, wrapI, owu, ow8, ow32, otd, oe0, oe1, oe2, oe3, oe4, oe5, oe6, otn, ot1, ot2, ot4, e0, e2, e4, e5]); first | done | rfl)); first | apply zk | (apply zn; (focus rfl); try (focus (first | rfl | (simp [e0, e2, e4, e5]; done)))) | (apply zo; (focus rfl)) | apply gv_u | apply gv_tt | apply gv_ff | apply gv_ft | apply gv_tf | (apply gv_split <;> intro hc <;> try simp only [decide_eq_true_eq, decide_eq_false_iff_not, beq_iff_eq, beq_eq_false_iff_ne, bne_iff_ne, bne_eq_false_iff_eq, Bool.not_true, Bool.not_false, ne_eq] at hc))
 | (simp (disch := omega) only [thenQ_normal, thenQ_exit, thenQ_ret, blockQ_normal, blockQ_ret, blockQ_exit_same, blockQ_exit_ne]))
    refine K _ n 0 ?_ (by simp [e2]) (by simp [e4]) (by simp [e5])
    unfold cutR
    rw [← hL, longest_none (fun q a b => by rw [hpc q (by omega), longest_none_inv hs q a b])]; rfl
  · rw [if_neg hk] at hs
    obtain ⟨q1, q2, q3, q4⟩ := longest_inv hs
    by_cases hn : n = -9223372036854775808
    · subst hn
      repeat' (first
 | refine za ?_ | refine zb ?_ | refine zc ?_ | refine zd ?_ | refine ze ?_ | refine zf ?_ | refine zg ?_ | refine zh ?_ | (refine zi ?_; try refine RgD_plain rfl ?_) | refine w_drawn rfl ?_ | refine zj ?_ | refine zl ?_
 | ((first | apply zs | (apply zt; (focus rfl)) | (apply zu; (focus rfl)) | (apply zv; (focus rfl)) | apply zw | apply zx | apply zy | apply zB | apply zC | apply zD | apply zE | apply zF); (focus ((conv => lhs; simp (disch := omega) [-env0_get, bound, List.getElem?_cons_zero, List.getElem?_cons_succ, odt, odf, oip, oin, obt, obf, ont, onf, wrapI, owu, ow8, ow32, otd, oe0, oe1, oe2, oe3, oe4, oe5, oe6, otn, ot1, ot2, ot4, e0, e2, e4, e5]); first | done | rfl)); first | apply zk | (apply zn; (focus rfl); try (focus (first | rfl | (simp [e0, e2, e4, e5]; done)))) | (apply zo; (focus rfl)) | apply gv_u | apply gv_tt | apply gv_ff | apply gv_ft | apply gv_tf | (apply gv_split <;> intro hc <;> try simp only [decide_eq_true_eq, decide_eq_false_iff_not, beq_iff_eq, beq_eq_false_iff_ne, bne_iff_ne, bne_eq_false_iff_eq, Bool.not_true, Bool.not_false, ne_eq] at hc) | exact (satRead_runs (by simp; omega)))
 | (simp (disch := omega) only [thenQ_normal, thenQ_exit, thenQ_ret, blockQ_normal, blockQ_ret, blockQ_exit_same, blockQ_exit_ne]))
      refine ⟨k - 1, ⟨by trivial, by simp [e0], by simp [e2], by simp, by simp, by omega, ?_⟩, by omega⟩
      rw [← hL, Nat.min_eq_right (by omega : k - 1 ≤ 20)]
      refine (longest_seg (by omega) (fun q a b => ?_)).symm
      rw [hpc q (by omega)]
      by_cases hqk : q = k
      · subst hqk; rw [q3]; rfl
      · rw [q4 q (by omega) b]
    · repeat' (first
 | refine za ?_ | refine zb ?_ | refine zc ?_ | refine zd ?_ | refine ze ?_ | refine zf ?_ | refine zg ?_ | refine zh ?_ | (refine zi ?_; try refine RgD_plain rfl ?_) | refine w_drawn rfl ?_ | refine zj ?_ | refine zl ?_
 | ((first | apply zs | (apply zt; (focus rfl)) | (apply zu; (focus rfl)) | (apply zv; (focus rfl)) | apply zx | apply zy | apply zB | apply zC | apply zD | apply zE | apply zF); (focus ((conv => lhs; simp (disch := omega) [-env0_get, bound, List.getElem?_cons_zero, List.getElem?_cons_succ, odt, odf, oip, oin, obt, obf, ont, onf, wrapI, owu, ow8, ow32, otd, oe0, oe1, oe2, oe3, oe4, oe5, oe6, otn, ot1, ot2, ot4, e0, e2, e4, e5]); first | done | rfl)); first | apply zk | (apply zn; (focus rfl); try (focus (first | rfl | (simp [e0, e2, e4, e5]; done)))) | (apply zo; (focus rfl)) | apply gv_u | apply gv_tt | apply gv_ff | apply gv_ft | apply gv_tf | (apply gv_split <;> intro hc <;> try simp only [decide_eq_true_eq, decide_eq_false_iff_not, beq_iff_eq, beq_eq_false_iff_ne, bne_iff_ne, bne_eq_false_iff_eq, Bool.not_true, Bool.not_false, ne_eq] at hc))
 | (simp (disch := omega) only [thenQ_normal, thenQ_exit, thenQ_ret, blockQ_normal, blockQ_ret, blockQ_exit_same, blockQ_exit_ne]))
      refine K _ n k ?_ (by simp [e2]) (by simp [e4]) (by simp [e5])
      unfold cutR
      rw [← hL, if_neg hk, longest_eq (k := k) (x := (0, n)) q1 q2]
      · rfl
      · rw [hpc k (by omega), q3]; simp [hn]
      · intro q a b; rw [hpc q (by omega), q4 q a b]
theorem cutRead_runs {l : List UInt8} (hl : l.length ≤ 900000) : Runs X ⟨f, []⟩ 169 [sv l] h (.tuple #[.agg #[.int .i64 (cutR l).1.1, .int .i64 (cutR l).1.2], .int .i64 (cutR l).2]) h := by
  refine Runs_of rfl f169_is ?_
  simp only [f169b, f169r0, f169r1, f169r2, f169r3, f169r4, f169r5, f169r9, f169r10, f169r11]
  by_cases h1 : l.take 4 = minf
  · have hc := cutR_inf (.inl ⟨rfl, rfl⟩) h1
    rw [hc]
    have h1' : List.take 4 l = [45, 105, 110, 102] := h1
    repeat' (first
 | refine za ?_ | refine zb ?_ | refine zc ?_ | refine zd ?_ | refine ze ?_ | refine zf ?_ | refine zg ?_ | refine zh ?_ | (refine zi ?_; try refine RgD_plain rfl ?_) | refine w_drawn rfl ?_ | refine zj ?_ | refine zl ?_
 | ((first | apply zs | (apply zt; (focus rfl)) | (apply zu; (focus rfl)) | (apply zv; (focus rfl)) | apply zw | apply zx | apply zy | apply zB | apply zC | apply zD | apply zE | apply zF); (focus ((conv => lhs; simp (disch := omega) [-env0_get, bound, List.getElem?_cons_zero, List.getElem?_cons_succ, odt, odf, oip, oin, obt, obf, ont, onf, wrapI, owu, ow8, ow32, otd, oe0, oe1, oe2, oe3, oe4, oe5, oe6, otn, ot1, ot2, ot4, h1']); first | done | rfl)); first | apply zk | (apply zn; (focus rfl); try (focus (first | rfl | (simp [h1']; done)))) | (apply zo; (focus rfl)) | apply gv_u | apply gv_tt | apply gv_ff | apply gv_ft | apply gv_tf | (apply gv_split <;> intro hc <;> try simp only [decide_eq_true_eq, decide_eq_false_iff_not, beq_iff_eq, beq_eq_false_iff_ne, bne_iff_ne, bne_eq_false_iff_eq, Bool.not_true, Bool.not_false, ne_eq] at hc) | exact (begins_runs (by omega) (by simp)) | exact first_runs)
 | (simp (disch := omega) only [thenQ_normal, thenQ_exit, thenQ_ret, blockQ_normal, blockQ_ret, blockQ_exit_same, blockQ_exit_ne]))
  · have h1' : ¬ List.take 4 l = [45, 105, 110, 102] := h1
    by_cases h2 : l.take 4 = pinf
    · have hc := cutR_inf (.inr ⟨rfl, rfl⟩) h2
      rw [hc]
      have h2' : List.take 4 l = [43, 105, 110, 102] := h2
      have h3' : ¬ ([43, 105, 110, 102] : List UInt8) = [45, 105, 110, 102] := by decide
      repeat' (first
 | refine za ?_ | refine zb ?_ | refine zc ?_ | refine zd ?_ | refine ze ?_ | refine zf ?_ | refine zg ?_ | refine zh ?_ | (refine zi ?_; try refine RgD_plain rfl ?_) | refine w_drawn rfl ?_ | refine zj ?_ | refine zl ?_
 | ((first | apply zs | (apply zt; (focus rfl)) | (apply zu; (focus rfl)) | (apply zv; (focus rfl)) | apply zw | apply zx | apply zy | apply zB | apply zC | apply zD | apply zE | apply zF); (focus ((conv => lhs; simp (disch := omega) [-env0_get, bound, List.getElem?_cons_zero, List.getElem?_cons_succ, odt, odf, oip, oin, obt, obf, ont, onf, wrapI, owu, ow8, ow32, otd, oe0, oe1, oe2, oe3, oe4, oe5, oe6, otn, ot1, ot2, ot4, h2', h3']); first | done | rfl)); first | apply zk | (apply zn; (focus rfl); try (focus (first | rfl | (simp [h2', h3']; done)))) | (apply zo; (focus rfl)) | apply gv_u | apply gv_tt | apply gv_ff | apply gv_ft | apply gv_tf | (apply gv_split <;> intro hc <;> try simp only [decide_eq_true_eq, decide_eq_false_iff_not, beq_iff_eq, beq_eq_false_iff_ne, bne_iff_ne, bne_eq_false_iff_eq, Bool.not_true, Bool.not_false, ne_eq] at hc) | exact (begins_runs (by omega) (by simp)) | exact last_runs)
 | (simp (disch := omega) only [thenQ_normal, thenQ_exit, thenQ_ret, blockQ_normal, blockQ_ret, blockQ_exit_same, blockQ_exit_ne]))
    · have h2' : ¬ List.take 4 l = [43, 105, 110, 102] := h2
      repeat' (first
 | refine za ?_ | refine zb ?_ | refine zc ?_ | refine zd ?_ | refine ze ?_ | refine zf ?_ | refine zg ?_ | refine zh ?_ | (refine zi ?_; try refine RgD_plain rfl ?_) | refine w_drawn rfl ?_ | refine zj ?_ | refine zl ?_
 | ((first | apply zs | (apply zt; (focus rfl)) | (apply zu; (focus rfl)) | (apply zv; (focus rfl)) | apply zw | apply zx | apply zy | apply zB | apply zC | apply zD | apply zE | apply zF); (focus ((conv => lhs; simp (disch := omega) [-env0_get, bound, List.getElem?_cons_zero, List.getElem?_cons_succ, odt, odf, oip, oin, obt, obf, ont, onf, wrapI, owu, ow8, ow32, otd, oe0, oe1, oe2, oe3, oe4, oe5, oe6, otn, ot1, ot2, ot4, h1', h2']); first | done | rfl)); first | apply zk | (apply zn; (focus rfl); try (focus (first | rfl | (simp [h1', h2']; done)))) | (apply zo; (focus rfl)) | apply gv_u | apply gv_tt | apply gv_ff | apply gv_ft | apply gv_tf | (apply gv_split <;> intro hc <;> try simp only [decide_eq_true_eq, decide_eq_false_iff_not, beq_iff_eq, beq_eq_false_iff_ne, bne_iff_ne, bne_eq_false_iff_eq, Bool.not_true, Bool.not_false, ne_eq] at hc) | exact (begins_runs (by omega) (by simp)) | exact (satRead_runs (by omega)))
 | (simp (disch := omega) only [thenQ_normal, thenQ_exit, thenQ_ret, blockQ_normal, blockQ_ret, blockQ_exit_same, blockQ_exit_ne]))
      refine cutRead_loop hl h1 h2 (fun env n k hc e2 e4 e5 => ?_) _ (by simp) (by simp) (by simp) (by simp)
      rw [hc]
      simp only [Array.size_push, Nat.add_sub_cancel] at e2
      by_cases hk : k = 0
      · subst hk
        repeat' (first
 | refine za ?_ | refine zb ?_ | refine zc ?_ | refine zd ?_ | refine ze ?_ | refine zf ?_ | refine zg ?_ | refine zh ?_ | (refine zi ?_; try refine RgD_plain rfl ?_) | refine w_drawn rfl ?_ | refine zj ?_ | refine zl ?_
 | ((first | apply zs | (apply zt; (focus rfl)) | (apply zu; (focus rfl)) | (apply zv; (focus rfl)) | apply zx | apply zy | apply zB | apply zC | apply zD | apply zE | apply zF); (focus ((conv => lhs; simp (disch := omega) [-env0_get, bound, List.getElem?_cons_zero, List.getElem?_cons_succ, odt, odf, oip, oin, obt, obf, ont, onf, wrapI, owu, ow8, ow32, otd, oe0, oe1, oe2, oe3, oe4, oe5, oe6, otn, ot1, ot2, ot4, e2, e4, e5]); first | done | rfl)); first | apply zk | (apply zn; (focus rfl); try (focus (first | rfl | (simp [e2, e4, e5]; done)))) | (apply zo; (focus rfl)) | apply gv_u | apply gv_tt | apply gv_ff | apply gv_ft | apply gv_tf | (apply gv_split <;> intro hc <;> try simp only [decide_eq_true_eq, decide_eq_false_iff_not, beq_iff_eq, beq_eq_false_iff_ne, bne_iff_ne, bne_eq_false_iff_eq, Bool.not_true, Bool.not_false, ne_eq] at hc))
 | (simp (disch := omega) only [thenQ_normal, thenQ_exit, thenQ_ret, blockQ_normal, blockQ_ret, blockQ_exit_same, blockQ_exit_ne]))
      · rw [if_neg hk]
        repeat' (first
 | refine za ?_ | refine zb ?_ | refine zc ?_ | refine zd ?_ | refine ze ?_ | refine zf ?_ | refine zg ?_ | refine zh ?_ | (refine zi ?_; try refine RgD_plain rfl ?_) | refine w_drawn rfl ?_ | refine zj ?_ | refine zl ?_
 | ((first | apply zs | (apply zt; (focus rfl)) | (apply zu; (focus rfl)) | (apply zv; (focus rfl)) | apply zx | apply zy | apply zB | apply zC | apply zD | apply zE | apply zF); (focus ((conv => lhs; simp (disch := omega) [-env0_get, bound, List.getElem?_cons_zero, List.getElem?_cons_succ, odt, odf, oip, oin, obt, obf, ont, onf, wrapI, owu, ow8, ow32, otd, oe0, oe1, oe2, oe3, oe4, oe5, oe6, otn, ot1, ot2, ot4, e2, e4, e5]); first | done | rfl)); first | apply zk | (apply zn; (focus rfl); try (focus (first | rfl | (simp [e2, e4, e5]; done)))) | (apply zo; (focus rfl)) | apply gv_u | apply gv_tt | apply gv_ff | apply gv_ft | apply gv_tf | (apply gv_split <;> intro hc <;> try simp only [decide_eq_true_eq, decide_eq_false_iff_not, beq_iff_eq, beq_eq_false_iff_ne, bne_iff_ne, bne_eq_false_iff_eq, Bool.not_true, Bool.not_false, ne_eq] at hc))
 | (simp (disch := omega) only [thenQ_normal, thenQ_exit, thenQ_ret, blockQ_normal, blockQ_ret, blockQ_exit_same, blockQ_exit_ne]))
end Go.Proofs.Ytlgbeekhaoiggaa
end

section
namespace Go.Proofs.Ytlgbeekhaoiggaa
open Go.AM
set_option maxHeartbeats 4000000
variable {f : Nat} {h : Heap}
abbrev St := Nat × Bool
def rdO (l : List UInt8) (lo : Bool) (s : St) : AObj := .cells [sv l, .int .i64 (s.1 : Nat), .bool s.2, .bool lo] 146
theorem set_self {p : Nat} {x : AObj} (hp : h[p]? = some x) : h.setIfInBounds p x = h := by
  apply Array.ext_getElem?
  intro i
  rw [Array.getElem?_setIfInBounds]
  by_cases hi : p = i
  · subst hi; rw [if_pos rfl, if_pos (Array.getElem?_eq_some_iff.1 hp).1, hp]
  · rw [if_neg hi]
theorem set_set {h : Heap} {p : Nat} {x y : AObj} : (h.setIfInBounds p x).setIfInBounds p y = h.setIfInBounds p y := by
  apply Array.ext_getElem?
  intro i
  simp only [Array.getElem?_setIfInBounds, Array.size_setIfInBounds]
  split <;> rfl
def signP (l : List UInt8) (w : List UInt8) (s : St) : Nat × St :=
  if s.2 then (0, s) else match l[s.1]? with
    | some b => if b ∈ w then (b.toNat, (s.1 + 1, false)) else (0, (s.1, true))
    | none => (0, (s.1, true))
def wordP (l : List UInt8) (w : List UInt8) (s : St) : Bool × St :=
  if s.2 = false ∧ (l.drop s.1).take w.length = w ∧ s.1 ≤ l.length then (true, (s.1 + w.length, false)) else (false, s)
def numP (rd : List UInt8 → Int × Nat) (l : List UInt8) (s : St) : Int × St :=
  if s.2 then (0, s) else ((rd (l.drop s.1)).1, (s.1 + (rd (l.drop s.1)).2, (rd (l.drop s.1)).2 == 0))
def skip (l : List UInt8) (i : Nat) : Nat := i + ((l.drop i).takeWhile (· == 32)).length
def blanksP (l : List UInt8) (lo : Bool) (s : St) : St := if lo = true ∧ s.2 = false then (skip l s.1, false) else s
theorem skip_le (l : List UInt8) (i : Nat) (hi : i ≤ l.length) : skip l i ≤ l.length := by
  unfold skip
  have := (List.takeWhile_sublist (p := (· == (32 : UInt8))) (l := l.drop i)).length_le
  simp at this; omega
theorem skip_step (l : List UInt8) (i : Nat) (hi : i < l.length) : skip l i = if l[i] = 32 then skip l (i + 1) else i := by
  unfold skip
  rw [List.drop_eq_getElem_cons hi, List.takeWhile_cons]
  by_cases hb : l[i] = 32
  · rw [if_pos hb, hb]; simp; omega
  · rw [if_neg hb]; simp [hb]
theorem skip_end (l : List UInt8) (i : Nat) (hi : l.length ≤ i) : skip l i = i := by
  unfold skip; rw [List.drop_eq_nil_of_le hi]; simp
theorem word_runs {p : Nat} {l w : List UInt8} {lo : Bool} {s : St} (hp : h[p]? = some (rdO l lo s)) (hf : f ≤ p) (hl : l.length ≤ 900000) (hs : s.1 ≤ l.length) (hw : w.length ≤ 1000) :
    Runs X ⟨f, []⟩ 133 [.pointer (some ⟨p, 0, none⟩), sv w] h (.bool (wordP l w s).1) (h.setIfInBounds p (rdO l lo (wordP l w s).2)) := by
  have hlt := (Array.getElem?_eq_some_iff.1 hp).1
  obtain ⟨at_, am⟩ := s
  simp only at hs
  have c0 : h.cellsAt p = some [sv l, .int .i64 at_, .bool am, .bool lo] := by unfold Heap.cellsAt; rw [hp]; rfl
  have hp' : h[p]? = some (.cells [sv l, .int .i64 at_, .bool am, .bool lo] 146) := hp
  have e0 := set_self hp'
  refine callR.toRuns (callR_of rfl f133_is ?_)
  simp only [f133r0, f133r1, f133r2, f133r3, f133r4, f133b]
  have ht : ∀ n, List.drop at_ (List.take (at_ + n) l) = (l.drop at_).take n := fun n => by rw [List.drop_take]; congr 1; omega
  have hlong : (l.drop at_).take w.length = w → at_ + w.length ≤ l.length := fun q => by have := congrArg List.length q; simp at this; omega
  cases am with
  | true =>
    repeat' (first
 | refine za ?_ | refine zb ?_ | refine zc ?_ | refine zd ?_ | refine ze ?_ | refine zf ?_ | refine zg ?_ | refine zh ?_ | (refine zi ?_; try refine RgD_plain rfl ?_) | refine w_drawn rfl ?_ | refine zj ?_ | refine zl ?_
 | ((first | apply zs | (apply zt; (focus rfl)) | (apply zu; (focus rfl)) | (apply zv; (focus rfl)) | apply zx | apply zy | apply zB | apply zC | apply zD | apply zE | apply zF); (focus ((conv => lhs; simp (disch := omega) [-env0_get, bound, List.getElem?_cons_zero, List.getElem?_cons_succ, odt, odf, oip, oin, obt, obf, ont, onf, wrapI, owu, ow8, ow32, otd, oe0, oe1, oe2, oe3, oe4, oe5, oe6, otn, ot1, ot2, ot4, c0]); first | done | rfl)); first | apply zk | (apply zn; (focus rfl); try (focus (first | rfl | (simp [c0]; done)))) | (apply zo; (focus rfl)) | apply gv_u | apply gv_tt | apply gv_ff | apply gv_ft | apply gv_tf | (apply gv_split <;> intro hc <;> try simp only [decide_eq_true_eq, decide_eq_false_iff_not, beq_iff_eq, beq_eq_false_iff_ne, bne_iff_ne, bne_eq_false_iff_eq, Bool.not_true, Bool.not_false, ne_eq] at hc))
 | (simp (disch := omega) only [thenQ_normal, thenQ_exit, thenQ_ret, blockQ_normal, blockQ_ret, blockQ_exit_same, blockQ_exit_ne]))
    simp [wordP, rdO, e0]
  | false =>
    by_cases hw2 : (l.drop at_).take w.length = w
    · have hlen := hlong hw2
      have hb : ((l.drop at_).take w.length == w) = true := by rw [hw2]; simp
      repeat' (first
 | refine za ?_ | refine zb ?_ | refine zc ?_ | refine zd ?_ | refine ze ?_ | refine zf ?_ | refine zg ?_ | refine zh ?_ | (refine zi ?_; try refine RgD_plain rfl ?_) | refine w_drawn rfl ?_ | refine zj ?_ | refine zl ?_
 | ((first | apply zs | (apply zt; (focus rfl)) | (apply zu; (focus rfl)) | (apply zv; (focus rfl)) | apply zx | apply zy | apply zB | apply zC | apply zD | apply zE | apply zF); (focus ((conv => lhs; simp (disch := omega) [-env0_get, bound, List.getElem?_cons_zero, List.getElem?_cons_succ, odt, odf, oip, oin, obt, obf, ont, onf, wrapI, owu, ow8, ow32, otd, oe0, oe1, oe2, oe3, oe4, oe5, oe6, otn, ot1, ot2, ot4, c0, ht, hb, wr_def hp']); first | done | rfl)); first | apply zk | (apply zn; (focus rfl); try (focus (first | rfl | (simp [c0, ht, hb, wr_def hp']; done)))) | (apply zo; (focus rfl)) | apply gv_u | apply gv_tt | apply gv_ff | apply gv_ft | apply gv_tf | (apply gv_split <;> intro hc <;> try simp only [decide_eq_true_eq, decide_eq_false_iff_not, beq_iff_eq, beq_eq_false_iff_ne, bne_iff_ne, bne_eq_false_iff_eq, Bool.not_true, Bool.not_false, ne_eq] at hc))
 | (simp (disch := omega) only [thenQ_normal, thenQ_exit, thenQ_ret, blockQ_normal, blockQ_ret, blockQ_exit_same, blockQ_exit_ne]))
      simp [wordP, rdO, hw2, hs]
    · have hb : ((l.drop at_).take w.length == w) = false := by simpa using hw2
      repeat' (first
 | refine za ?_ | refine zb ?_ | refine zc ?_ | refine zd ?_ | refine ze ?_ | refine zf ?_ | refine zg ?_ | refine zh ?_ | (refine zi ?_; try refine RgD_plain rfl ?_) | refine w_drawn rfl ?_ | refine zj ?_ | refine zl ?_
 | ((first | apply zs | (apply zt; (focus rfl)) | (apply zu; (focus rfl)) | (apply zv; (focus rfl)) | apply zx | apply zy | apply zB | apply zC | apply zD | apply zE | apply zF); (focus ((conv => lhs; simp (disch := omega) [-env0_get, bound, List.getElem?_cons_zero, List.getElem?_cons_succ, odt, odf, oip, oin, obt, obf, ont, onf, wrapI, owu, ow8, ow32, otd, oe0, oe1, oe2, oe3, oe4, oe5, oe6, otn, ot1, ot2, ot4, c0, ht, hb, wr_def hp']); first | done | rfl)); first | apply zk | (apply zn; (focus rfl); try (focus (first | rfl | (simp [c0, ht, hb, wr_def hp']; done)))) | (apply zo; (focus rfl)) | apply gv_u | apply gv_tt | apply gv_ff | apply gv_ft | apply gv_tf | (apply gv_split <;> intro hc <;> try simp only [decide_eq_true_eq, decide_eq_false_iff_not, beq_iff_eq, beq_eq_false_iff_ne, bne_iff_ne, bne_eq_false_iff_eq, Bool.not_true, Bool.not_false, ne_eq] at hc))
 | (simp (disch := omega) only [thenQ_normal, thenQ_exit, thenQ_ret, blockQ_normal, blockQ_ret, blockQ_exit_same, blockQ_exit_ne]))
      all_goals simp [wordP, rdO, hw2, e0]
theorem num_runs {p : Nat} {l : List UInt8} {lo : Bool} {s : St} {g : FuncId} {rd : List UInt8 → Int × Nat} (hp : h[p]? = some (rdO l lo s)) (hf : f ≤ p) (hl : l.length ≤ 900000) (hs : s.1 ≤ l.length) (hrl : (rd (l.drop s.1)).2 ≤ l.length - s.1)
    (hr : Runs X ⟨f, []⟩ g [sv (l.drop s.1)] h (.tuple #[.int .i64 (rd (l.drop s.1)).1, .int .i64 (rd (l.drop s.1)).2]) h) :
    Runs X ⟨f, []⟩ 134 [.pointer (some ⟨p, 0, none⟩), .func (.func g) #[] #[]] h (.int .i64 (numP rd l s).1) (h.setIfInBounds p (rdO l lo (numP rd l s).2)) := by
  have hlt := (Array.getElem?_eq_some_iff.1 hp).1
  obtain ⟨at_, am⟩ := s
  simp only at hs hrl hr
  have c0 : h.cellsAt p = some [sv l, .int .i64 at_, .bool am, .bool lo] := by unfold Heap.cellsAt; rw [hp]; rfl
  have hp' : h[p]? = some (.cells [sv l, .int .i64 at_, .bool am, .bool lo] 146) := hp
  have e0 := set_self hp'
  refine callR.toRuns (callR_of rfl f134_is ?_)
  simp only [f134r0, f134r1, f134r2, f134r3, f134r4, f134r5, f134r6, f134b]
  have c1 : ∀ x, Heap.cellsAt (h.setIfInBounds p (.cells x 146)) p = some x := fun x => by simp [hlt]
  have w1 : ∀ x off vs, wr ⟨f, []⟩ (h.setIfInBounds p (.cells x 146)) p off vs = if f ≤ p ∧ vs.all one = true ∧ off + vs.length ≤ x.length then some (h.setIfInBounds p (.cells (putAt x off vs) 146)) else none := fun x off vs => by
    rw [wr_def (c := x) (e := 146) (by simp [hlt]), set_set]
  cases am with
  | true =>
    repeat' (first
 | refine za ?_ | refine zb ?_ | refine zc ?_ | refine zd ?_ | refine ze ?_ | refine zf ?_ | refine zg ?_ | refine zh ?_ | (refine zi ?_; try refine RgD_plain rfl ?_) | refine w_drawn rfl ?_ | refine zj ?_ | refine zl ?_
 | ((first | apply zs | (apply zt; (focus rfl)) | (apply zu; (focus rfl)) | (apply zv; (focus rfl)) | apply zx | apply zy | apply zB | apply zC | apply zD | apply zE | apply zF); (focus ((conv => lhs; simp (disch := omega) [-env0_get, bound, List.getElem?_cons_zero, List.getElem?_cons_succ, odt, odf, oip, oin, obt, obf, ont, onf, wrapI, owu, ow8, ow32, otd, oe0, oe1, oe2, oe3, oe4, oe5, oe6, otn, ot1, ot2, ot4, c0]); first | done | rfl)); first | apply zk | (apply zn; (focus rfl); try (focus (first | rfl | (simp [c0]; done)))) | (apply zo; (focus rfl)) | apply gv_u | apply gv_tt | apply gv_ff | apply gv_ft | apply gv_tf | (apply gv_split <;> intro hc <;> try simp only [decide_eq_true_eq, decide_eq_false_iff_not, beq_iff_eq, beq_eq_false_iff_ne, bne_iff_ne, bne_eq_false_iff_eq, Bool.not_true, Bool.not_false, ne_eq] at hc))
 | (simp (disch := omega) only [thenQ_normal, thenQ_exit, thenQ_ret, blockQ_normal, blockQ_ret, blockQ_exit_same, blockQ_exit_ne]))
    simp [numP, rdO, e0]
  | false =>
    repeat' (first
 | refine za ?_ | refine zb ?_ | refine zc ?_ | refine zd ?_ | refine ze ?_ | refine zf ?_ | refine zg ?_ | refine zh ?_ | (refine zi ?_; try refine RgD_plain rfl ?_) | refine w_drawn rfl ?_ | refine zj ?_ | refine zl ?_
 | ((first | apply zs | (apply zt; (focus rfl)) | (apply zu; (focus rfl)) | (apply zv; (focus rfl)) | apply zw | apply zx | apply zy | apply zB | apply zC | apply zD | apply zE | apply zF); (focus ((conv => lhs; simp (disch := omega) [-env0_get, bound, List.getElem?_cons_zero, List.getElem?_cons_succ, odt, odf, oip, oin, obt, obf, ont, onf, wrapI, owu, ow8, ow32, otd, oe0, oe1, oe2, oe3, oe4, oe5, oe6, otn, ot1, ot2, ot4, c0, wr_def hp', c1, w1]); first | done | rfl)); first | apply zk | (apply zn; (focus rfl); try (focus (first | rfl | (simp [c0, wr_def hp', c1, w1]; done)))) | (apply zo; (focus rfl)) | apply gv_u | apply gv_tt | apply gv_ff | apply gv_ft | apply gv_tf | (apply gv_split <;> intro hc <;> try simp only [decide_eq_true_eq, decide_eq_false_iff_not, beq_iff_eq, beq_eq_false_iff_ne, bne_iff_ne, bne_eq_false_iff_eq, Bool.not_true, Bool.not_false, ne_eq] at hc) | exact hr)
 | (simp (disch := omega) only [thenQ_normal, thenQ_exit, thenQ_ret, blockQ_normal, blockQ_ret, blockQ_exit_same, blockQ_exit_ne]))
    have b0 : ∀ n : Nat, ((n : Int) == 0) = (n == 0) := fun n => by rw [Bool.eq_iff_iff]; simp
    simp [numP, rdO, b0]
theorem blanks_runs {p : Nat} {l : List UInt8} {lo : Bool} {s : St} (hp : h[p]? = some (rdO l lo s)) (hf : f ≤ p) (hl : l.length ≤ 900000) (hs : s.1 ≤ l.length) :
    Runs X ⟨f, []⟩ 138 [.pointer (some ⟨p, 0, none⟩)] h (.tuple #[]) (h.setIfInBounds p (rdO l lo (blanksP l lo s))) := by
  have hlt := (Array.getElem?_eq_some_iff.1 hp).1
  refine callR.toRuns (callR_of rfl f138_is ?_)
  simp only [f138b]
  repeat' (first
 | refine za ?_ | refine zb ?_ | refine zc ?_ | refine zd ?_ | refine ze ?_ | refine zf ?_ | refine zg ?_ | refine zh ?_ | (refine zi ?_; try refine RgD_plain rfl ?_) | refine w_drawn rfl ?_ | refine zj ?_ | refine zl ?_
 | ((first | apply zs | (apply zt; (focus rfl)) | (apply zu; (focus rfl)) | (apply zv; (focus rfl)) | apply zx | apply zy | apply zB | apply zC | apply zD | apply zE | apply zF); (focus ((conv => lhs; simp (disch := omega) [-env0_get, bound, List.getElem?_cons_zero, List.getElem?_cons_succ, odt, odf, oip, oin, obt, obf, ont, onf, wrapI, owu, ow8, ow32, otd, oe0, oe1, oe2, oe3, oe4, oe5, oe6, otn, ot1, ot2, ot4]); first | done | rfl)); first | apply zk | (apply zn; (focus rfl); try (focus (first | rfl | (simp; done)))) | (apply zo; (focus rfl)) | apply gv_u | apply gv_tt | apply gv_ff | apply gv_ft | apply gv_tf | (apply gv_split <;> intro hc <;> try simp only [decide_eq_true_eq, decide_eq_false_iff_not, beq_iff_eq, beq_eq_false_iff_ne, bne_iff_ne, bne_eq_false_iff_eq, Bool.not_true, Bool.not_false, ne_eq] at hc))
 | (simp (disch := omega) only [thenQ_normal, thenQ_exit, thenQ_ret, blockQ_normal, blockQ_ret, blockQ_exit_same, blockQ_exit_ne]))
  refine w_loop (A := St) (fun a env h' => h' = h.setIfInBounds p (rdO l lo a) ∧ env 0 = .pointer (some ⟨p, 0, none⟩) ∧ a.1 ≤ l.length ∧ blanksP l lo a = blanksP l lo s) (fun a => l.length - a.1) (a0 := s) ⟨(set_self hp).symm, by simp, hs, rfl⟩ ?_
  rintro ⟨at_, am⟩ env h' ⟨rfl, e0, ha, hb⟩
  simp only at ha
  have c0 : Heap.cellsAt (h.setIfInBounds p (rdO l lo (at_, am))) p = some [sv l, .int .i64 at_, .bool am, .bool lo] := by simp [hlt, rdO]
  have w1 : ∀ off vs, wr ⟨f, []⟩ (h.setIfInBounds p (rdO l lo (at_, am))) p off vs = if f ≤ p ∧ vs.all one = true ∧ off + vs.length ≤ 4 then some (h.setIfInBounds p (.cells (putAt [sv l, .int .i64 at_, .bool am, .bool lo] off vs) 146)) else none := fun off vs => by
    rw [wr_def (c := [sv l, .int .i64 at_, .bool am, .bool lo]) (e := 146) (by rw [Array.getElem?_setIfInBounds, if_pos rfl, if_pos hlt]; rfl), set_set]; rfl
  simp only [f138l2, f138r0, f138r1]
  have hstop : (lo = false ∨ am = true ∨ l.length ≤ at_ ∨ ∃ hlt : at_ < l.length, ¬ l[at_] = 32) → blanksP l lo (at_, am) = (at_, am) := fun q => by
    unfold blanksP
    rcases q with q | q | q | ⟨q1, q⟩
    · simp [q]
    · simp [q]
    · split
      · rename_i hc; simp at hc; rw [skip_end l at_ q, hc.2]
      · rfl
    · split
      · rename_i hc; simp at hc; rw [skip_step l at_ q1, if_neg q, hc.2]
      · rfl
  cases lo with
  | false =>
    have := hstop (.inl rfl)
    rw [← hb, this]
    repeat' (first
 | refine za ?_ | refine zb ?_ | refine zc ?_ | refine zd ?_ | refine ze ?_ | refine zf ?_ | refine zg ?_ | refine zh ?_ | (refine zi ?_; try refine RgD_plain rfl ?_) | refine w_drawn rfl ?_ | refine zj ?_ | refine zl ?_
 | ((first | apply zs | (apply zt; (focus rfl)) | (apply zu; (focus rfl)) | (apply zv; (focus rfl)) | apply zx | apply zy | apply zB | apply zC | apply zD | apply zE | apply zF); (focus ((conv => lhs; simp (disch := omega) [-env0_get, bound, List.getElem?_cons_zero, List.getElem?_cons_succ, odt, odf, oip, oin, obt, obf, ont, onf, wrapI, owu, ow8, ow32, otd, oe0, oe1, oe2, oe3, oe4, oe5, oe6, otn, ot1, ot2, ot4, e0, c0]); first | done | rfl)); first | apply zk | (apply zn; (focus rfl); try (focus (first | rfl | (simp [e0, c0]; done)))) | (apply zo; (focus rfl)) | apply gv_u | apply gv_tt | apply gv_ff | apply gv_ft | apply gv_tf | (apply gv_split <;> intro hc <;> try simp only [decide_eq_true_eq, decide_eq_false_iff_not, beq_iff_eq, beq_eq_false_iff_ne, bne_iff_ne, bne_eq_false_iff_eq, Bool.not_true, Bool.not_false, ne_eq] at hc))
 | (simp (disch := omega) only [thenQ_normal, thenQ_exit, thenQ_ret, blockQ_normal, blockQ_ret, blockQ_exit_same, blockQ_exit_ne]))
    all_goals exact ⟨by trivial, by trivial⟩
  | true =>
    cases am with
    | true =>
      have := hstop (.inr (.inl rfl))
      rw [← hb, this]
      repeat' (first
 | refine za ?_ | refine zb ?_ | refine zc ?_ | refine zd ?_ | refine ze ?_ | refine zf ?_ | refine zg ?_ | refine zh ?_ | (refine zi ?_; try refine RgD_plain rfl ?_) | refine w_drawn rfl ?_ | refine zj ?_ | refine zl ?_
 | ((first | apply zs | (apply zt; (focus rfl)) | (apply zu; (focus rfl)) | (apply zv; (focus rfl)) | apply zx | apply zy | apply zB | apply zC | apply zD | apply zE | apply zF); (focus ((conv => lhs; simp (disch := omega) [-env0_get, bound, List.getElem?_cons_zero, List.getElem?_cons_succ, odt, odf, oip, oin, obt, obf, ont, onf, wrapI, owu, ow8, ow32, otd, oe0, oe1, oe2, oe3, oe4, oe5, oe6, otn, ot1, ot2, ot4, e0, c0]); first | done | rfl)); first | apply zk | (apply zn; (focus rfl); try (focus (first | rfl | (simp [e0, c0]; done)))) | (apply zo; (focus rfl)) | apply gv_u | apply gv_tt | apply gv_ff | apply gv_ft | apply gv_tf | (apply gv_split <;> intro hc <;> try simp only [decide_eq_true_eq, decide_eq_false_iff_not, beq_iff_eq, beq_eq_false_iff_ne, bne_iff_ne, bne_eq_false_iff_eq, Bool.not_true, Bool.not_false, ne_eq] at hc))
 | (simp (disch := omega) only [thenQ_normal, thenQ_exit, thenQ_ret, blockQ_normal, blockQ_ret, blockQ_exit_same, blockQ_exit_ne]))
      all_goals exact ⟨by trivial, by trivial⟩
    | false =>
      by_cases hlt2 : at_ < l.length
      · obtain ⟨b, hbv⟩ : ∃ b, l[at_] = b := ⟨_, rfl⟩
        by_cases h32 : b.toNat = 32
        · repeat' (first
 | refine za ?_ | refine zb ?_ | refine zc ?_ | refine zd ?_ | refine ze ?_ | refine zf ?_ | refine zg ?_ | refine zh ?_ | (refine zi ?_; try refine RgD_plain rfl ?_) | refine w_drawn rfl ?_ | refine zj ?_ | refine zl ?_
 | ((first | apply zs | (apply zt; (focus rfl)) | (apply zu; (focus rfl)) | (apply zv; (focus rfl)) | apply zx | apply zy | apply zB | apply zC | apply zD | apply zE | apply zF); (focus ((conv => lhs; simp (disch := omega) [-env0_get, bound, List.getElem?_cons_zero, List.getElem?_cons_succ, odt, odf, oip, oin, obt, obf, ont, onf, wrapI, owu, ow8, ow32, otd, oe0, oe1, oe2, oe3, oe4, oe5, oe6, otn, ot1, ot2, ot4, e0, c0, hbv, w1]); first | done | rfl)); first | apply zk | (apply zn; (focus rfl); try (focus (first | rfl | (simp [e0, c0, hbv, w1]; done)))) | (apply zo; (focus rfl)) | apply gv_u | apply gv_tt | apply gv_ff | apply gv_ft | apply gv_tf | (apply gv_split <;> intro hc <;> try simp only [decide_eq_true_eq, decide_eq_false_iff_not, beq_iff_eq, beq_eq_false_iff_ne, bne_iff_ne, bne_eq_false_iff_eq, Bool.not_true, Bool.not_false, ne_eq] at hc))
 | (simp (disch := omega) only [thenQ_normal, thenQ_exit, thenQ_ret, blockQ_normal, blockQ_ret, blockQ_exit_same, blockQ_exit_ne]))
          refine ⟨(at_ + 1, false), ⟨by simp [rdO], by simp [e0], by simp only; omega, ?_⟩, by simp only; omega⟩
          rw [← hb]
          unfold blanksP
          simp only [and_self, if_true]
          rw [skip_step l at_ hlt2, if_pos (by rw [hbv]; exact UInt8.toNat_inj.1 (by rw [h32]; rfl))]
        · have h32' : ¬ b = 32 := fun q => h32 (by rw [q]; rfl)
          have := hstop (.inr (.inr (.inr ⟨hlt2, by rw [hbv]; exact h32'⟩)))
          rw [← hb, this]
          repeat' (first
 | refine za ?_ | refine zb ?_ | refine zc ?_ | refine zd ?_ | refine ze ?_ | refine zf ?_ | refine zg ?_ | refine zh ?_ | (refine zi ?_; try refine RgD_plain rfl ?_) | refine w_drawn rfl ?_ | refine zj ?_ | refine zl ?_
 | ((first | apply zs | (apply zt; (focus rfl)) | (apply zu; (focus rfl)) | (apply zv; (focus rfl)) | apply zx | apply zy | apply zB | apply zC | apply zD | apply zE | apply zF); (focus ((conv => lhs; simp (disch := omega) [-env0_get, bound, List.getElem?_cons_zero, List.getElem?_cons_succ, odt, odf, oip, oin, obt, obf, ont, onf, wrapI, owu, ow8, ow32, otd, oe0, oe1, oe2, oe3, oe4, oe5, oe6, otn, ot1, ot2, ot4, e0, c0, hbv, w1]); first | done | rfl)); first | apply zk | (apply zn; (focus rfl); try (focus (first | rfl | (simp [e0, c0, hbv, w1]; done)))) | (apply zo; (focus rfl)) | apply gv_u | apply gv_tt | apply gv_ff | apply gv_ft | apply gv_tf | (apply gv_split <;> intro hc <;> try simp only [decide_eq_true_eq, decide_eq_false_iff_not, beq_iff_eq, beq_eq_false_iff_ne, bne_iff_ne, bne_eq_false_iff_eq, Bool.not_true, Bool.not_false, ne_eq] at hc))
 | (simp (disch := omega) only [thenQ_normal, thenQ_exit, thenQ_ret, blockQ_normal, blockQ_ret, blockQ_exit_same, blockQ_exit_ne]))
          all_goals exact ⟨by trivial, by trivial⟩
      · have := hstop (.inr (.inr (.inl (by omega))))
        rw [← hb, this]
        repeat' (first
 | refine za ?_ | refine zb ?_ | refine zc ?_ | refine zd ?_ | refine ze ?_ | refine zf ?_ | refine zg ?_ | refine zh ?_ | (refine zi ?_; try refine RgD_plain rfl ?_) | refine w_drawn rfl ?_ | refine zj ?_ | refine zl ?_
 | ((first | apply zs | (apply zt; (focus rfl)) | (apply zu; (focus rfl)) | (apply zv; (focus rfl)) | apply zx | apply zy | apply zB | apply zC | apply zD | apply zE | apply zF); (focus ((conv => lhs; simp (disch := omega) [-env0_get, bound, List.getElem?_cons_zero, List.getElem?_cons_succ, odt, odf, oip, oin, obt, obf, ont, onf, wrapI, owu, ow8, ow32, otd, oe0, oe1, oe2, oe3, oe4, oe5, oe6, otn, ot1, ot2, ot4, e0, c0]); first | done | rfl)); first | apply zk | (apply zn; (focus rfl); try (focus (first | rfl | (simp [e0, c0]; done)))) | (apply zo; (focus rfl)) | apply gv_u | apply gv_tt | apply gv_ff | apply gv_ft | apply gv_tf | (apply gv_split <;> intro hc <;> try simp only [decide_eq_true_eq, decide_eq_false_iff_not, beq_iff_eq, beq_eq_false_iff_ne, bne_iff_ne, bne_eq_false_iff_eq, Bool.not_true, Bool.not_false, ne_eq] at hc))
 | (simp (disch := omega) only [thenQ_normal, thenQ_exit, thenQ_ret, blockQ_normal, blockQ_ret, blockQ_exit_same, blockQ_exit_ne]))
        all_goals exact ⟨by trivial, by trivial⟩
theorem sign_runs {p : Nat} {l w : List UInt8} {lo : Bool} {s : St} (hp : h[p]? = some (rdO l lo s)) (hf : f ≤ p) (hl : l.length ≤ 900000) (hw : w.length ≤ 1000) (hs : s.1 ≤ l.length) :
    Runs X ⟨f, []⟩ 132 [.pointer (some ⟨p, 0, none⟩), sv w] h (.int .u8 (signP l w s).1) (h.setIfInBounds p (rdO l lo (signP l w s).2)) := by
  have hlt := (Array.getElem?_eq_some_iff.1 hp).1
  obtain ⟨at_, am⟩ := s
  simp only at hs
  have c0 : h.cellsAt p = some [sv l, .int .i64 at_, .bool am, .bool lo] := by unfold Heap.cellsAt; rw [hp]; rfl
  have hp' : h[p]? = some (.cells [sv l, .int .i64 at_, .bool am, .bool lo] 146) := hp
  have e0' := set_self hp'
  refine callR.toRuns (callR_of rfl f132_is ?_)
  simp only [f132b, f132r0, f132r1, f132r2, f132r3, f132r11, f132r12]
  cases am with
  | true =>
    repeat' (first
 | refine za ?_ | refine zb ?_ | refine zc ?_ | refine zd ?_ | refine ze ?_ | refine zf ?_ | refine zg ?_ | refine zh ?_ | (refine zi ?_; try refine RgD_plain rfl ?_) | refine w_drawn rfl ?_ | refine zj ?_ | refine zl ?_
 | ((first | apply zs | (apply zt; (focus rfl)) | (apply zu; (focus rfl)) | (apply zv; (focus rfl)) | apply zx | apply zy | apply zB | apply zC | apply zD | apply zE | apply zF); (focus ((conv => lhs; simp (disch := omega) [-env0_get, bound, List.getElem?_cons_zero, List.getElem?_cons_succ, odt, odf, oip, oin, obt, obf, ont, onf, wrapI, owu, ow8, ow32, otd, oe0, oe1, oe2, oe3, oe4, oe5, oe6, otn, ot1, ot2, ot4, c0]); first | done | rfl)); first | apply zk | (apply zn; (focus rfl); try (focus (first | rfl | (simp [c0]; done)))) | (apply zo; (focus rfl)) | apply gv_u | apply gv_tt | apply gv_ff | apply gv_ft | apply gv_tf | (apply gv_split <;> intro hc <;> try simp only [decide_eq_true_eq, decide_eq_false_iff_not, beq_iff_eq, beq_eq_false_iff_ne, bne_iff_ne, bne_eq_false_iff_eq, Bool.not_true, Bool.not_false, ne_eq] at hc))
 | (simp (disch := omega) only [thenQ_normal, thenQ_exit, thenQ_ret, blockQ_normal, blockQ_ret, blockQ_exit_same, blockQ_exit_ne]))
    simp [signP, rdO, e0']
  | false =>
    repeat' (first
 | refine za ?_ | refine zb ?_ | refine zc ?_ | refine zd ?_ | refine ze ?_ | refine zf ?_ | refine zg ?_ | refine zh ?_ | (refine zi ?_; try refine RgD_plain rfl ?_) | refine w_drawn rfl ?_ | refine zj ?_ | refine zl ?_
 | ((first | apply zs | (apply zt; (focus rfl)) | (apply zu; (focus rfl)) | (apply zv; (focus rfl)) | apply zx | apply zy | apply zB | apply zC | apply zD | apply zE | apply zF); (focus ((conv => lhs; simp (disch := omega) [-env0_get, bound, List.getElem?_cons_zero, List.getElem?_cons_succ, odt, odf, oip, oin, obt, obf, ont, onf, wrapI, owu, ow8, ow32, otd, oe0, oe1, oe2, oe3, oe4, oe5, oe6, otn, ot1, ot2, ot4, c0]); first | done | rfl)); first | apply zk | (apply zn; (focus rfl); try (focus (first | rfl | (simp [c0]; done)))) | (apply zo; (focus rfl)) | apply gv_u | apply gv_tt | apply gv_ff | apply gv_ft | apply gv_tf | (apply gv_split <;> intro hc <;> try simp only [decide_eq_true_eq, decide_eq_false_iff_not, beq_iff_eq, beq_eq_false_iff_ne, bne_iff_ne, bne_eq_false_iff_eq, Bool.not_true, Bool.not_false, ne_eq] at hc))
 | (simp (disch := omega) only [thenQ_normal, thenQ_exit, thenQ_ret, blockQ_normal, blockQ_ret, blockQ_exit_same, blockQ_exit_ne]))
    refine w_loop (A := Nat) (fun i env h' => h' = h ∧ env 0 = .pointer (some ⟨p, 0, none⟩) ∧ env 1 = sv w ∧ env 11 = .int .i64 w.length ∧ env 12 = .int .i64 i ∧ i ≤ w.length ∧ (∀ (j : Nat) (hj : j < w.length), j < i → l[at_]? ≠ some w[j])) (fun i => w.length - i) (a0 := 0) ⟨rfl, by simp, by simp, by simp, by simp, by omega, by intro j hj q; omega⟩ ?_
    rintro i env h' ⟨rfl, e0, e1, e11, e12, hi, hne⟩
    simp only [f132l10, f132r4, f132r5, f132r6, f132r7, f132r8, f132r9]
    by_cases hiw : i < w.length
    · obtain ⟨c, hc⟩ : ∃ c, w[i] = c := ⟨_, rfl⟩
      by_cases hlt2 : at_ < l.length
      · obtain ⟨b, hbv⟩ : ∃ b, l[at_] = b := ⟨_, rfl⟩
        have hbv' : l[at_]? = some b := by simp [hlt2, hbv]
        by_cases hbc : b = c
        · subst hbc
          repeat' (first
 | refine za ?_ | refine zb ?_ | refine zc ?_ | refine zd ?_ | refine ze ?_ | refine zf ?_ | refine zg ?_ | refine zh ?_ | (refine zi ?_; try refine RgD_plain rfl ?_) | refine w_drawn rfl ?_ | refine zj ?_ | refine zl ?_
 | ((first | apply zs | (apply zt; (focus rfl)) | (apply zu; (focus rfl)) | (apply zv; (focus rfl)) | apply zx | apply zy | apply zB | apply zC | apply zD | apply zE | apply zF); (focus ((conv => lhs; simp (disch := omega) [-env0_get, bound, List.getElem?_cons_zero, List.getElem?_cons_succ, odt, odf, oip, oin, obt, obf, ont, onf, wrapI, owu, ow8, ow32, otd, oe0, oe1, oe2, oe3, oe4, oe5, oe6, otn, ot1, ot2, ot4, e0, e1, e11, e12, c0, hc, hbv, wr_def hp']); first | done | rfl)); first | apply zk | (apply zn; (focus rfl); try (focus (first | rfl | (simp [e0, e1, e11, e12, c0, hc, hbv, wr_def hp']; done)))) | (apply zo; (focus rfl)) | apply gv_u | apply gv_tt | apply gv_ff | apply gv_ft | apply gv_tf | (apply gv_split <;> intro hc <;> try simp only [decide_eq_true_eq, decide_eq_false_iff_not, beq_iff_eq, beq_eq_false_iff_ne, bne_iff_ne, bne_eq_false_iff_eq, Bool.not_true, Bool.not_false, ne_eq] at hc))
 | (simp (disch := omega) only [thenQ_normal, thenQ_exit, thenQ_ret, blockQ_normal, blockQ_ret, blockQ_exit_same, blockQ_exit_ne]))
          have hmem : b ∈ w := hc ▸ List.getElem_mem _
          simp [signP, rdO, hbv', hmem]
        · have hbn : ¬ (b.toNat : Int) = c.toNat := fun q => hbc (UInt8.toNat_inj.1 (by omega))
          repeat' (first
 | refine za ?_ | refine zb ?_ | refine zc ?_ | refine zd ?_ | refine ze ?_ | refine zf ?_ | refine zg ?_ | refine zh ?_ | (refine zi ?_; try refine RgD_plain rfl ?_) | refine w_drawn rfl ?_ | refine zj ?_ | refine zl ?_
 | ((first | apply zs | (apply zt; (focus rfl)) | (apply zu; (focus rfl)) | (apply zv; (focus rfl)) | apply zx | apply zy | apply zB | apply zC | apply zD | apply zE | apply zF); (focus ((conv => lhs; simp (disch := omega) [-env0_get, bound, List.getElem?_cons_zero, List.getElem?_cons_succ, odt, odf, oip, oin, obt, obf, ont, onf, wrapI, owu, ow8, ow32, otd, oe0, oe1, oe2, oe3, oe4, oe5, oe6, otn, ot1, ot2, ot4, e0, e1, e11, e12, c0, hc, hbv, wr_def hp']); first | done | rfl)); first | apply zk | (apply zn; (focus rfl); try (focus (first | rfl | (simp [e0, e1, e11, e12, c0, hc, hbv, wr_def hp']; done)))) | (apply zo; (focus rfl)) | apply gv_u | apply gv_tt | apply gv_ff | apply gv_ft | apply gv_tf | (apply gv_split <;> intro hc <;> try simp only [decide_eq_true_eq, decide_eq_false_iff_not, beq_iff_eq, beq_eq_false_iff_ne, bne_iff_ne, bne_eq_false_iff_eq, Bool.not_true, Bool.not_false, ne_eq] at hc))
 | (simp (disch := omega) only [thenQ_normal, thenQ_exit, thenQ_ret, blockQ_normal, blockQ_ret, blockQ_exit_same, blockQ_exit_ne]))
          refine ⟨i + 1, ⟨by trivial, by simp [e0], by simp [e1], by simp [e11], by simp, by omega, fun j hj q => ?_⟩, by omega⟩
          by_cases hji : j = i
          · subst hji; rw [hbv', hc]; simp [hbc]
          · exact hne j hj (by omega)
      · have hnone : l[at_]? = none := List.getElem?_eq_none (by omega)
        repeat' (first
 | refine za ?_ | refine zb ?_ | refine zc ?_ | refine zd ?_ | refine ze ?_ | refine zf ?_ | refine zg ?_ | refine zh ?_ | (refine zi ?_; try refine RgD_plain rfl ?_) | refine w_drawn rfl ?_ | refine zj ?_ | refine zl ?_
 | ((first | apply zs | (apply zt; (focus rfl)) | (apply zu; (focus rfl)) | (apply zv; (focus rfl)) | apply zx | apply zy | apply zB | apply zC | apply zD | apply zE | apply zF); (focus ((conv => lhs; simp (disch := omega) [-env0_get, bound, List.getElem?_cons_zero, List.getElem?_cons_succ, odt, odf, oip, oin, obt, obf, ont, onf, wrapI, owu, ow8, ow32, otd, oe0, oe1, oe2, oe3, oe4, oe5, oe6, otn, ot1, ot2, ot4, e0, e1, e11, e12, c0, hc, wr_def hp']); first | done | rfl)); first | apply zk | (apply zn; (focus rfl); try (focus (first | rfl | (simp [e0, e1, e11, e12, c0, hc, wr_def hp']; done)))) | (apply zo; (focus rfl)) | apply gv_u | apply gv_tt | apply gv_ff | apply gv_ft | apply gv_tf | (apply gv_split <;> intro hc <;> try simp only [decide_eq_true_eq, decide_eq_false_iff_not, beq_iff_eq, beq_eq_false_iff_ne, bne_iff_ne, bne_eq_false_iff_eq, Bool.not_true, Bool.not_false, ne_eq] at hc))
 | (simp (disch := omega) only [thenQ_normal, thenQ_exit, thenQ_ret, blockQ_normal, blockQ_ret, blockQ_exit_same, blockQ_exit_ne]))
        exact ⟨i + 1, ⟨by trivial, by simp [e0], by simp [e1], by simp [e11], by simp, by omega, fun j hj q => by rw [hnone]; simp⟩, by omega⟩
    · repeat' (first
 | refine za ?_ | refine zb ?_ | refine zc ?_ | refine zd ?_ | refine ze ?_ | refine zf ?_ | refine zg ?_ | refine zh ?_ | (refine zi ?_; try refine RgD_plain rfl ?_) | refine w_drawn rfl ?_ | refine zj ?_ | refine zl ?_
 | ((first | apply zs | (apply zt; (focus rfl)) | (apply zu; (focus rfl)) | (apply zv; (focus rfl)) | apply zx | apply zy | apply zB | apply zC | apply zD | apply zE | apply zF); (focus ((conv => lhs; simp (disch := omega) [-env0_get, bound, List.getElem?_cons_zero, List.getElem?_cons_succ, odt, odf, oip, oin, obt, obf, ont, onf, wrapI, owu, ow8, ow32, otd, oe0, oe1, oe2, oe3, oe4, oe5, oe6, otn, ot1, ot2, ot4, e0, e1, e11, e12, c0, wr_def hp']); first | done | rfl)); first | apply zk | (apply zn; (focus rfl); try (focus (first | rfl | (simp [e0, e1, e11, e12, c0, wr_def hp']; done)))) | (apply zo; (focus rfl)) | apply gv_u | apply gv_tt | apply gv_ff | apply gv_ft | apply gv_tf | (apply gv_split <;> intro hc <;> try simp only [decide_eq_true_eq, decide_eq_false_iff_not, beq_iff_eq, beq_eq_false_iff_ne, bne_iff_ne, bne_eq_false_iff_eq, Bool.not_true, Bool.not_false, ne_eq] at hc))
 | (simp (disch := omega) only [thenQ_normal, thenQ_exit, thenQ_ret, blockQ_normal, blockQ_ret, blockQ_exit_same, blockQ_exit_ne]))
      have : signP l w (at_, false) = (0, (at_, true)) := by
        unfold signP
        simp only [Bool.false_eq_true, if_false]
        cases hx : l[at_]? with
        | none => rfl
        | some b =>
          have : ¬ b ∈ w := fun q => by
            obtain ⟨j, hj, e⟩ := List.mem_iff_getElem.1 q
            exact hne j hj (by omega) (by rw [hx, e])
          simp only; rw [if_neg this]
      rw [this]
      simp [rdO]
end Go.Proofs.Ytlgbeekhaoiggaa
end
