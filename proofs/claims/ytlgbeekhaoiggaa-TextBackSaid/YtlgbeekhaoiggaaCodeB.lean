import Derived.Test.YtlgbeekhaoiggaaCodeA
set_option linter.all false
section
namespace Go.Proofs.Ytlgbeekhaoiggaa
open Go.AM
abbrev sv (l : List UInt8) : Value := .string ⟨l.toArray⟩
@[simp] theorem ba_size (l : List UInt8) : (⟨l.toArray⟩ : ByteArray).size = l.length := by simp [ByteArray.size]
@[simp] theorem ba_toList (l : List UInt8) : (⟨l.toArray⟩ : ByteArray).toList = l := by
  have h : ∀ (bs : ByteArray) (i : Nat) (r : List UInt8), ByteArray.toList.loop bs i r = r.reverse ++ bs.data.toList.drop i := by
    intro bs i r
    induction hn : bs.size - i generalizing i r with
    | zero => rw [ByteArray.toList.loop]; rw [if_neg (by omega)]; rw [List.drop_eq_nil_of_le (by simp; have : bs.size = bs.data.size := rfl; omega)]; simp
    | succ n ih =>
      have hlt : i < bs.size := by omega
      rw [ByteArray.toList.loop, if_pos hlt, ih (i + 1) _ (by omega)]
      have hlt' : i < bs.data.toList.length := by simpa using hlt
      rw [List.drop_eq_getElem_cons hlt']
      simp only [List.reverse_cons, List.append_assoc, List.singleton_append]
      congr 2
      have : i < bs.data.size := hlt
      simp only [ByteArray.get!]
      exact getElem!_pos bs.data i this
  rw [ByteArray.toList, h]; simp
@[simp] theorem ba_extract (l : List UInt8) (i j : Nat) : (⟨l.toArray⟩ : ByteArray).extract i j = ⟨((l.take j).drop i).toArray⟩ := by
  apply ByteArray.ext
  rw [ByteArray.data_extract]
  simp [List.drop_take]
@[simp] theorem ba_append (l m : List UInt8) : (⟨l.toArray⟩ ++ ⟨m.toArray⟩ : ByteArray) = ⟨(l ++ m).toArray⟩ := by
  apply ByteArray.ext
  simp
def digC (most : Nat) (st : Prop) (n : Nat) (b : UInt8) : Prop := 48 ≤ b.toNat ∧ b.toNat ≤ 57 ∧ (st → n ≠ 0) ∧ n ≤ (most - (b.toNat - 48)) / 10
instance {most : Nat} {st : Prop} [Decidable st] {n : Nat} {b : UInt8} : Decidable (digC most st n b) := by unfold digC; infer_instance
def digs (most : Nat) : Bool → Nat → List UInt8 → Nat × Nat
  | _, n, [] => (n, 0)
  | st, n, b :: l => if digC most (st = true) n b then ((digs most true (10 * n + (b.toNat - 48)) l).1, (digs most true (10 * n + (b.toNat - 48)) l).2 + 1) else (n, 0)
theorem digs_len {most : Nat} : ∀ {l : List UInt8} {st : Bool} {n : Nat}, (digs most st n l).2 ≤ l.length
  | [], _, _ => by simp [digs]
  | b :: l, st, n => by
    rw [digs]; split
    · have := @digs_len most l true (10 * n + (b.toNat - 48)); simp; omega
    · simp
theorem digs_le {most : Nat} : ∀ {l : List UInt8} {st : Bool} {n : Nat}, 9 ≤ most → n ≤ most → (digs most st n l).1 ≤ most
  | [], _, _, _, h => by simpa [digs] using h
  | b :: l, st, n, h9, h => by
    rw [digs]; split
    · rename_i hc
      refine digs_le (l := l) (st := true) h9 ?_
      obtain ⟨h1, h2, h3, h4⟩ := hc; omega
    · exact h
def satNeg (l : List UInt8) : Nat × Nat := digs 9223372036854775808 false 0 l
def satPos (l : List UInt8) : Nat × Nat := digs 9223372036854775807 false 0 l
def negR (p : Nat × Nat) : Int × Nat := if p.2 = 0 ∨ p.1 = 0 then (0, 0) else (-(p.1 : Int), p.2 + 1)
def posR (p : Nat × Nat) : Int × Nat := if p.2 = 0 then (0, 0) else ((p.1 : Int), p.2)
def satRead (l : List UInt8) : Int × Nat := if l.head? = some 45 then negR (satNeg l.tail) else posR (satPos l)
variable {f : Nat} {h : Heap}
theorem size_runs {n : Int} (hn : -9223372036854775808 ≤ n ∧ n ≤ 9223372036854775807) : Runs X ⟨f, []⟩ 92 [.int .i64 n] h (.int .u64 (n.natAbs : Nat)) h := by
  refine Runs_of rfl f92_is ?_
  simp only [f92r0, f92r1, f92r2, f92r3, f92b]
  repeat' (first
 | refine za ?_ | refine zb ?_ | refine zc ?_ | refine zd ?_ | refine ze ?_ | refine zf ?_ | refine zg ?_ | refine zh ?_ | (refine zi ?_; try refine RgD_plain rfl ?_) | refine w_drawn rfl ?_ | refine zj ?_ | refine zl ?_
 | ((first | apply zs | (apply zt; (focus rfl)) | (apply zu; (focus rfl)) | (apply zv; (focus rfl)) | apply zx | apply zy | apply zB | apply zC | apply zD | apply zE | apply zF); (focus ((conv => lhs; simp (disch := omega) [-env0_get, bound, List.getElem?_cons_zero, List.getElem?_cons_succ, odt, odf, oip, oin, obt, obf, ont, onf, wrapI, owu, ow8, ow32, otd, oe0, oe1, oe2, oe3, oe4, oe5, oe6, otn, ot1, ot2, ot4]); first | done | rfl)); first | apply zk | (apply zn; (focus rfl); try (focus (first | rfl | (simp; done)))) | (apply zo; (focus rfl)) | apply gv_u | apply gv_tt | apply gv_ff | apply gv_ft | apply gv_tf | (apply gv_split <;> intro hc <;> try simp only [decide_eq_true_eq, decide_eq_false_iff_not, beq_iff_eq, beq_eq_false_iff_ne, bne_iff_ne, bne_eq_false_iff_eq, Bool.not_true, Bool.not_false, ne_eq] at hc))
 | (simp (disch := omega) only [thenQ_normal, thenQ_exit, thenQ_ret, blockQ_normal, blockQ_ret, blockQ_exit_same, blockQ_exit_ne]))
  all_goals (simp_all [IntKind.wrap, IntKind.bits, IntKind.signed]; omega)
theorem satRead_loop {h : Heap} {l : List UInt8} {from_ most : Nat} {Q : AExit → Env → Heap → Prop} (hl : l.length ≤ 1000000) (hm : 9 ≤ most ∧ most ≤ 9223372036854775808) (R : Nat × Nat)
    (K : ∀ env, env 0 = sv l → env 4 = .int .i64 from_ → env 6 = .int .u64 (R.1 : Nat) → env 7 = .int .i64 (R.2 : Nat) → Q (.exit 0) env h) :
    ∀ (env : Env) (at_ n : Nat), env 0 = sv l → env 4 = .int .i64 from_ → env 5 = .int .u64 most → env 6 = .int .u64 n → env 7 = .int .i64 at_ → from_ ≤ at_ → at_ ≤ l.length → n ≤ most →
      (digs most (decide (from_ < at_)) n (l.drop at_)).1 = R.1 → at_ + (digs most (decide (from_ < at_)) n (l.drop at_)).2 = R.2 → Ok X ⟨f, []⟩ (.loop f115l14) env h Q := by
  intro env at_ n e0 e4 e5 e6 e7 hf ha hn r1 r2
  refine w_loop (A := Nat × Nat) (fun a env h' => h' = h ∧ env 0 = sv l ∧ env 4 = .int .i64 from_ ∧ env 5 = .int .u64 most ∧ env 6 = .int .u64 (a.2 : Nat) ∧ env 7 = .int .i64 (a.1 : Nat) ∧ from_ ≤ a.1 ∧ a.1 ≤ l.length ∧ a.2 ≤ most ∧
    (digs most (decide (from_ < a.1)) a.2 (l.drop a.1)).1 = R.1 ∧ a.1 + (digs most (decide (from_ < a.1)) a.2 (l.drop a.1)).2 = R.2) (fun a => l.length - a.1) (a0 := (at_, n)) ⟨rfl, e0, e4, e5, e6, e7, hf, ha, hn, r1, r2⟩ ?_
  clear e0 e4 e5 e6 e7 hf ha hn r1 r2
  rintro ⟨at_, n⟩ env h' ⟨rfl, e0, e4, e5, e6, e7, hf, ha, hn, r1, r2⟩
  simp only at e6 e7 hf ha hn r1 r2 ⊢
  simp only [f115l14, f115r9, f115r10, f115r11, f115r12, f115r13]
  by_cases hlt : at_ < l.length
  · obtain ⟨b, hb⟩ : ∃ b, l[at_] = b := ⟨_, rfl⟩
    have hd : l.drop at_ = b :: l.drop (at_ + 1) := by
      rw [List.drop_eq_getElem_cons hlt, hb]
    rw [hd, digs] at r1 r2
    by_cases hg : digC most (decide (from_ < at_) = true) n b
    · rw [if_pos hg] at r1 r2
      simp only [digC, decide_eq_true_eq] at hg
      repeat' (first
 | refine za ?_ | refine zb ?_ | refine zc ?_ | refine zd ?_ | refine ze ?_ | refine zf ?_ | refine zg ?_ | refine zh ?_ | (refine zi ?_; try refine RgD_plain rfl ?_) | refine w_drawn rfl ?_ | refine zj ?_ | refine zl ?_
 | ((first | apply zs | (apply zt; (focus rfl)) | (apply zu; (focus rfl)) | (apply zv; (focus rfl)) | apply zx | apply zy | apply zB | apply zC | apply zD | apply zE | apply zF); (focus ((conv => lhs; simp (disch := omega) [-env0_get, bound, List.getElem?_cons_zero, List.getElem?_cons_succ, odt, odf, oip, oin, obt, obf, ont, onf, wrapI, owu, ow8, ow32, otd, oe0, oe1, oe2, oe3, oe4, oe5, oe6, otn, ot1, ot2, ot4, e0, e4, e5, e6, e7, hb]); first | done | rfl)); first | apply zk | (apply zn; (focus rfl); try (focus (first | rfl | (simp [e0, e4, e5, e6, e7, hb]; done)))) | (apply zo; (focus rfl)) | apply gv_u | apply gv_tt | apply gv_ff | apply gv_ft | apply gv_tf | (apply gv_split <;> intro hc <;> try simp only [decide_eq_true_eq, decide_eq_false_iff_not, beq_iff_eq, beq_eq_false_iff_ne, bne_iff_ne, bne_eq_false_iff_eq, Bool.not_true, Bool.not_false, ne_eq] at hc))
 | (simp (disch := omega) only [thenQ_normal, thenQ_exit, thenQ_ret, blockQ_normal, blockQ_ret, blockQ_exit_same, blockQ_exit_ne]))
      all_goals
        refine ⟨(at_ + 1, 10 * n + (b.toNat - 48)), ⟨by trivial, by simp [e0], by simp [e4], by simp [e5], ?_, by simp, by simp only; omega, by simp only; omega, by simp only; omega, ?_, ?_⟩, by simp only; omega⟩
        · simp; omega
        · simp only; rw [decide_eq_true (by omega : from_ < at_ + 1)]; exact r1
        · simp only; rw [decide_eq_true (by omega : from_ < at_ + 1)]; simp only at r2; omega
    · rw [if_neg hg] at r1 r2
      simp only [digC, decide_eq_true_eq] at hg
      repeat' (first
 | refine za ?_ | refine zb ?_ | refine zc ?_ | refine zd ?_ | refine ze ?_ | refine zf ?_ | refine zg ?_ | refine zh ?_ | (refine zi ?_; try refine RgD_plain rfl ?_) | refine w_drawn rfl ?_ | refine zj ?_ | refine zl ?_
 | ((first | apply zs | (apply zt; (focus rfl)) | (apply zu; (focus rfl)) | (apply zv; (focus rfl)) | apply zx | apply zy | apply zB | apply zC | apply zD | apply zE | apply zF); (focus ((conv => lhs; simp (disch := omega) [-env0_get, bound, List.getElem?_cons_zero, List.getElem?_cons_succ, odt, odf, oip, oin, obt, obf, ont, onf, wrapI, owu, ow8, ow32, otd, oe0, oe1, oe2, oe3, oe4, oe5, oe6, otn, ot1, ot2, ot4, e0, e4, e5, e6, e7, hb]); first | done | rfl)); first | apply zk | (apply zn; (focus rfl); try (focus (first | rfl | (simp [e0, e4, e5, e6, e7, hb]; done)))) | (apply zo; (focus rfl)) | apply gv_u | apply gv_tt | apply gv_ff | apply gv_ft | apply gv_tf | (apply gv_split <;> intro hc <;> try simp only [decide_eq_true_eq, decide_eq_false_iff_not, beq_iff_eq, beq_eq_false_iff_ne, bne_iff_ne, bne_eq_false_iff_eq, Bool.not_true, Bool.not_false, ne_eq] at hc))
 | (simp (disch := omega) only [thenQ_normal, thenQ_exit, thenQ_ret, blockQ_normal, blockQ_ret, blockQ_exit_same, blockQ_exit_ne]))
      all_goals exact K _ (by simp [e0]) (by simp [e4]) (by simp [e6, ← r1]) (by simp [e7, ← r2])
  · have hd : l.drop at_ = [] := List.drop_eq_nil_of_le (by omega)
    rw [hd, digs] at r1 r2
    repeat' (first
 | refine za ?_ | refine zb ?_ | refine zc ?_ | refine zd ?_ | refine ze ?_ | refine zf ?_ | refine zg ?_ | refine zh ?_ | (refine zi ?_; try refine RgD_plain rfl ?_) | refine w_drawn rfl ?_ | refine zj ?_ | refine zl ?_
 | ((first | apply zs | (apply zt; (focus rfl)) | (apply zu; (focus rfl)) | (apply zv; (focus rfl)) | apply zx | apply zy | apply zB | apply zC | apply zD | apply zE | apply zF); (focus ((conv => lhs; simp (disch := omega) [-env0_get, bound, List.getElem?_cons_zero, List.getElem?_cons_succ, odt, odf, oip, oin, obt, obf, ont, onf, wrapI, owu, ow8, ow32, otd, oe0, oe1, oe2, oe3, oe4, oe5, oe6, otn, ot1, ot2, ot4, e0, e4, e5, e6, e7]); first | done | rfl)); first | apply zk | (apply zn; (focus rfl); try (focus (first | rfl | (simp [e0, e4, e5, e6, e7]; done)))) | (apply zo; (focus rfl)) | apply gv_u | apply gv_tt | apply gv_ff | apply gv_ft | apply gv_tf | (apply gv_split <;> intro hc <;> try simp only [decide_eq_true_eq, decide_eq_false_iff_not, beq_iff_eq, beq_eq_false_iff_ne, bne_iff_ne, bne_eq_false_iff_eq, Bool.not_true, Bool.not_false, ne_eq] at hc))
 | (simp (disch := omega) only [thenQ_normal, thenQ_exit, thenQ_ret, blockQ_normal, blockQ_ret, blockQ_exit_same, blockQ_exit_ne]))
    all_goals exact K _ (by simp [e0]) (by simp [e4]) (by simp [e6, ← r1]) (by simp [e7, ← r2])
theorem sat_len {l : List UInt8} : (satRead l).2 ≤ l.length := by
  unfold satRead
  have h1 : (satNeg l.tail).2 ≤ l.tail.length := digs_len
  have h2 : (satPos l).2 ≤ l.length := digs_len
  cases l with
  | nil => simp [satPos, posR, digs]
  | cons a l =>
    simp only [List.tail_cons, List.length_cons] at h1 h2 ⊢
    split
    · unfold negR; split <;> simp; omega
    · unfold posR; split <;> simp; omega
theorem satRead_runs {l : List UInt8} (hl : l.length ≤ 1000000) : Runs X ⟨f, []⟩ 115 [sv l] h (.tuple #[.int .i64 (satRead l).1, .int .i64 (satRead l).2]) h := by
  refine Runs_of rfl f115_is ?_
  simp only [f115b, f115r0, f115r1, f115r2, f115r3, f115r4, f115r5, f115r6, f115r7, f115r8, f115r15, f115r16, f115r17, f115r18, f115r19]
  have wn : ∀ n : Nat, n ≤ 9223372036854775808 → IntKind.i64.wrap (IntKind.u64.wrap (-(n : Int))) = -(n : Int) := fun n hn => by
    simp [IntKind.wrap, IntKind.bits, IntKind.signed]; omega
  rcases l with _ | ⟨a, l⟩
  · repeat' (first
 | refine za ?_ | refine zb ?_ | refine zc ?_ | refine zd ?_ | refine ze ?_ | refine zf ?_ | refine zg ?_ | refine zh ?_ | (refine zi ?_; try refine RgD_plain rfl ?_) | refine w_drawn rfl ?_ | refine zj ?_ | refine zl ?_
 | ((first | apply zs | (apply zt; (focus rfl)) | (apply zu; (focus rfl)) | (apply zv; (focus rfl)) | apply zw | apply zx | apply zy | apply zB | apply zC | apply zD | apply zE | apply zF); (focus ((conv => lhs; simp (disch := omega) [-env0_get, bound, List.getElem?_cons_zero, List.getElem?_cons_succ, odt, odf, oip, oin, obt, obf, ont, onf, wrapI, owu, ow8, ow32, otd, oe0, oe1, oe2, oe3, oe4, oe5, oe6, otn, ot1, ot2, ot4]); first | done | rfl)); first | apply zk | (apply zn; (focus rfl); try (focus (first | rfl | (simp; done)))) | (apply zo; (focus rfl)) | apply gv_u | apply gv_tt | apply gv_ff | apply gv_ft | apply gv_tf | (apply gv_split <;> intro hc <;> try simp only [decide_eq_true_eq, decide_eq_false_iff_not, beq_iff_eq, beq_eq_false_iff_ne, bne_iff_ne, bne_eq_false_iff_eq, Bool.not_true, Bool.not_false, ne_eq] at hc) | exact (size_runs (by omega)))
 | (simp (disch := omega) only [thenQ_normal, thenQ_exit, thenQ_ret, blockQ_normal, blockQ_ret, blockQ_exit_same, blockQ_exit_ne]))
    refine satRead_loop (l := []) (from_ := 0) (most := 9223372036854775807) hl (by omega) (0, 0) (fun env e0 e4 e6 e7 => ?_) _ 0 0 (by simp) (by simp) (by simp) (by simp) (by simp) (by omega) (by simp) (by omega) (by simp [digs]) (by simp [digs])
    repeat' (first
 | refine za ?_ | refine zb ?_ | refine zc ?_ | refine zd ?_ | refine ze ?_ | refine zf ?_ | refine zg ?_ | refine zh ?_ | (refine zi ?_; try refine RgD_plain rfl ?_) | refine w_drawn rfl ?_ | refine zj ?_ | refine zl ?_
 | ((first | apply zs | (apply zt; (focus rfl)) | (apply zu; (focus rfl)) | (apply zv; (focus rfl)) | apply zx | apply zy | apply zB | apply zC | apply zD | apply zE | apply zF); (focus ((conv => lhs; simp (disch := omega) [-env0_get, bound, List.getElem?_cons_zero, List.getElem?_cons_succ, odt, odf, oip, oin, obt, obf, ont, onf, wrapI, owu, ow8, ow32, otd, oe0, oe1, oe2, oe3, oe4, oe5, oe6, otn, ot1, ot2, ot4, e0, e4, e6, e7, satRead, satPos, posR, digs]); first | done | rfl)); first | apply zk | (apply zn; (focus rfl); try (focus (first | rfl | (simp [e0, e4, e6, e7, satRead, satPos, posR, digs]; done)))) | (apply zo; (focus rfl)) | apply gv_u | apply gv_tt | apply gv_ff | apply gv_ft | apply gv_tf | (apply gv_split <;> intro hc <;> try simp only [decide_eq_true_eq, decide_eq_false_iff_not, beq_iff_eq, beq_eq_false_iff_ne, bne_iff_ne, bne_eq_false_iff_eq, Bool.not_true, Bool.not_false, ne_eq] at hc))
 | (simp (disch := omega) only [thenQ_normal, thenQ_exit, thenQ_ret, blockQ_normal, blockQ_ret, blockQ_exit_same, blockQ_exit_ne]))
  · simp only [List.length_cons] at hl
    by_cases ha : a = 45
    · subst ha
      have hle : (satNeg l).1 ≤ 9223372036854775808 := digs_le (by omega) (by omega)
      have hln : (satNeg l).2 ≤ l.length := digs_len
      repeat' (first
 | refine za ?_ | refine zb ?_ | refine zc ?_ | refine zd ?_ | refine ze ?_ | refine zf ?_ | refine zg ?_ | refine zh ?_ | (refine zi ?_; try refine RgD_plain rfl ?_) | refine w_drawn rfl ?_ | refine zj ?_ | refine zl ?_
 | ((first | apply zs | (apply zt; (focus rfl)) | (apply zu; (focus rfl)) | (apply zv; (focus rfl)) | apply zw | apply zx | apply zy | apply zB | apply zC | apply zD | apply zE | apply zF); (focus ((conv => lhs; simp (disch := omega) [-env0_get, bound, List.getElem?_cons_zero, List.getElem?_cons_succ, odt, odf, oip, oin, obt, obf, ont, onf, wrapI, owu, ow8, ow32, otd, oe0, oe1, oe2, oe3, oe4, oe5, oe6, otn, ot1, ot2, ot4]); first | done | rfl)); first | apply zk | (apply zn; (focus rfl); try (focus (first | rfl | (simp; done)))) | (apply zo; (focus rfl)) | apply gv_u | apply gv_tt | apply gv_ff | apply gv_ft | apply gv_tf | (apply gv_split <;> intro hc <;> try simp only [decide_eq_true_eq, decide_eq_false_iff_not, beq_iff_eq, beq_eq_false_iff_ne, bne_iff_ne, bne_eq_false_iff_eq, Bool.not_true, Bool.not_false, ne_eq] at hc) | exact (size_runs (by omega)))
 | (simp (disch := omega) only [thenQ_normal, thenQ_exit, thenQ_ret, blockQ_normal, blockQ_ret, blockQ_exit_same, blockQ_exit_ne]))
      refine satRead_loop (l := 45 :: l) (from_ := 1) (most := 9223372036854775808) (by simpa using hl) (by omega) ((satNeg l).1, 1 + (satNeg l).2) (fun env e0 e4 e6 e7 => ?_) _ 1 0 (by simp) (by simp) (by simp) (by simp) (by simp) (by omega) (by simp) (by omega) (by simp [satNeg]) (by simp [satNeg])
      by_cases hz : (satNeg l).2 = 0 ∨ (satNeg l).1 = 0
      · have e : satRead (45 :: l) = (0, 0) := by unfold satRead; rw [List.head?_cons, if_pos rfl]; exact if_pos hz
        rw [e]
        repeat' (first
 | refine za ?_ | refine zb ?_ | refine zc ?_ | refine zd ?_ | refine ze ?_ | refine zf ?_ | refine zg ?_ | refine zh ?_ | (refine zi ?_; try refine RgD_plain rfl ?_) | refine w_drawn rfl ?_ | refine zj ?_ | refine zl ?_
 | ((first | apply zs | (apply zt; (focus rfl)) | (apply zu; (focus rfl)) | (apply zv; (focus rfl)) | apply zx | apply zy | apply zB | apply zC | apply zD | apply zE | apply zF); (focus ((conv => lhs; simp (disch := omega) [-env0_get, bound, List.getElem?_cons_zero, List.getElem?_cons_succ, odt, odf, oip, oin, obt, obf, ont, onf, wrapI, owu, ow8, ow32, otd, oe0, oe1, oe2, oe3, oe4, oe5, oe6, otn, ot1, ot2, ot4, e0, e4, e6, e7]); first | done | rfl)); first | apply zk | (apply zn; (focus rfl); try (focus (first | rfl | (simp [e0, e4, e6, e7]; done)))) | (apply zo; (focus rfl)) | apply gv_u | apply gv_tt | apply gv_ff | apply gv_ft | apply gv_tf | (apply gv_split <;> intro hc <;> try simp only [decide_eq_true_eq, decide_eq_false_iff_not, beq_iff_eq, beq_eq_false_iff_ne, bne_iff_ne, bne_eq_false_iff_eq, Bool.not_true, Bool.not_false, ne_eq] at hc))
 | (simp (disch := omega) only [thenQ_normal, thenQ_exit, thenQ_ret, blockQ_normal, blockQ_ret, blockQ_exit_same, blockQ_exit_ne]))
      · have e : satRead (45 :: l) = (-((satNeg l).1 : Int), (satNeg l).2 + 1) := by unfold satRead; rw [List.head?_cons, if_pos rfl]; exact if_neg hz
        rw [e]
        repeat' (first
 | refine za ?_ | refine zb ?_ | refine zc ?_ | refine zd ?_ | refine ze ?_ | refine zf ?_ | refine zg ?_ | refine zh ?_ | (refine zi ?_; try refine RgD_plain rfl ?_) | refine w_drawn rfl ?_ | refine zj ?_ | refine zl ?_
 | ((first | apply zs | (apply zt; (focus rfl)) | (apply zu; (focus rfl)) | (apply zv; (focus rfl)) | apply zx | apply zy | apply zB | apply zC | apply zD | apply zE | apply zF); (focus ((conv => lhs; simp (disch := omega) [-env0_get, bound, List.getElem?_cons_zero, List.getElem?_cons_succ, odt, odf, oip, oin, obt, obf, ont, onf, wrapI, owu, ow8, ow32, otd, oe0, oe1, oe2, oe3, oe4, oe5, oe6, otn, ot1, ot2, ot4, e0, e4, e6, e7, wn _ hle, Int.add_comm]); first | done | rfl)); first | apply zk | (apply zn; (focus rfl); try (focus (first | rfl | (simp [e0, e4, e6, e7, wn _ hle, Int.add_comm]; done)))) | (apply zo; (focus rfl)) | apply gv_u | apply gv_tt | apply gv_ff | apply gv_ft | apply gv_tf | (apply gv_split <;> intro hc <;> try simp only [decide_eq_true_eq, decide_eq_false_iff_not, beq_iff_eq, beq_eq_false_iff_ne, bne_iff_ne, bne_eq_false_iff_eq, Bool.not_true, Bool.not_false, ne_eq] at hc))
 | (simp (disch := omega) only [thenQ_normal, thenQ_exit, thenQ_ret, blockQ_normal, blockQ_ret, blockQ_exit_same, blockQ_exit_ne]))
        simp [tup]; omega
    · have hle : (satPos (a :: l)).1 ≤ 9223372036854775807 := digs_le (by omega) (by omega)
      have hln : (satPos (a :: l)).2 ≤ (a :: l).length := digs_len
      simp only [List.length_cons] at hln
      have ha' : ¬ a.toNat = 45 := fun q => ha (UInt8.toNat_inj.1 (by rw [q]; rfl))
      repeat' (first
 | refine za ?_ | refine zb ?_ | refine zc ?_ | refine zd ?_ | refine ze ?_ | refine zf ?_ | refine zg ?_ | refine zh ?_ | (refine zi ?_; try refine RgD_plain rfl ?_) | refine w_drawn rfl ?_ | refine zj ?_ | refine zl ?_
 | ((first | apply zs | (apply zt; (focus rfl)) | (apply zu; (focus rfl)) | (apply zv; (focus rfl)) | apply zw | apply zx | apply zy | apply zB | apply zC | apply zD | apply zE | apply zF); (focus ((conv => lhs; simp (disch := omega) [-env0_get, bound, List.getElem?_cons_zero, List.getElem?_cons_succ, odt, odf, oip, oin, obt, obf, ont, onf, wrapI, owu, ow8, ow32, otd, oe0, oe1, oe2, oe3, oe4, oe5, oe6, otn, ot1, ot2, ot4]); first | done | rfl)); first | apply zk | (apply zn; (focus rfl); try (focus (first | rfl | (simp; done)))) | (apply zo; (focus rfl)) | apply gv_u | apply gv_tt | apply gv_ff | apply gv_ft | apply gv_tf | (apply gv_split <;> intro hc <;> try simp only [decide_eq_true_eq, decide_eq_false_iff_not, beq_iff_eq, beq_eq_false_iff_ne, bne_iff_ne, bne_eq_false_iff_eq, Bool.not_true, Bool.not_false, ne_eq] at hc) | exact (size_runs (by omega)))
 | (simp (disch := omega) only [thenQ_normal, thenQ_exit, thenQ_ret, blockQ_normal, blockQ_ret, blockQ_exit_same, blockQ_exit_ne]))
      refine satRead_loop (l := a :: l) (from_ := 0) (most := 9223372036854775807) (by simpa using hl) (by omega) ((satPos (a :: l)).1, (satPos (a :: l)).2) (fun env e0 e4 e6 e7 => ?_) _ 0 0 (by simp) (by simp) (by simp) (by simp) (by simp) (by omega) (by simp) (by omega) (by simp [satPos]) (by simp [satPos])
      by_cases hz : (satPos (a :: l)).2 = 0
      · have e : satRead (a :: l) = (0, 0) := by unfold satRead; rw [List.head?_cons, if_neg (by simp [ha])]; exact if_pos hz
        rw [e]
        repeat' (first
 | refine za ?_ | refine zb ?_ | refine zc ?_ | refine zd ?_ | refine ze ?_ | refine zf ?_ | refine zg ?_ | refine zh ?_ | (refine zi ?_; try refine RgD_plain rfl ?_) | refine w_drawn rfl ?_ | refine zj ?_ | refine zl ?_
 | ((first | apply zs | (apply zt; (focus rfl)) | (apply zu; (focus rfl)) | (apply zv; (focus rfl)) | apply zx | apply zy | apply zB | apply zC | apply zD | apply zE | apply zF); (focus ((conv => lhs; simp (disch := omega) [-env0_get, bound, List.getElem?_cons_zero, List.getElem?_cons_succ, odt, odf, oip, oin, obt, obf, ont, onf, wrapI, owu, ow8, ow32, otd, oe0, oe1, oe2, oe3, oe4, oe5, oe6, otn, ot1, ot2, ot4, e0, e4, e6, e7]); first | done | rfl)); first | apply zk | (apply zn; (focus rfl); try (focus (first | rfl | (simp [e0, e4, e6, e7]; done)))) | (apply zo; (focus rfl)) | apply gv_u | apply gv_tt | apply gv_ff | apply gv_ft | apply gv_tf | (apply gv_split <;> intro hc <;> try simp only [decide_eq_true_eq, decide_eq_false_iff_not, beq_iff_eq, beq_eq_false_iff_ne, bne_iff_ne, bne_eq_false_iff_eq, Bool.not_true, Bool.not_false, ne_eq] at hc))
 | (simp (disch := omega) only [thenQ_normal, thenQ_exit, thenQ_ret, blockQ_normal, blockQ_ret, blockQ_exit_same, blockQ_exit_ne]))
      · have e : satRead (a :: l) = (((satPos (a :: l)).1 : Int), (satPos (a :: l)).2) := by unfold satRead; rw [List.head?_cons, if_neg (by simp [ha])]; exact if_neg hz
        rw [e]
        repeat' (first
 | refine za ?_ | refine zb ?_ | refine zc ?_ | refine zd ?_ | refine ze ?_ | refine zf ?_ | refine zg ?_ | refine zh ?_ | (refine zi ?_; try refine RgD_plain rfl ?_) | refine w_drawn rfl ?_ | refine zj ?_ | refine zl ?_
 | ((first | apply zs | (apply zt; (focus rfl)) | (apply zu; (focus rfl)) | (apply zv; (focus rfl)) | apply zx | apply zy | apply zB | apply zC | apply zD | apply zE | apply zF); (focus ((conv => lhs; simp (disch := omega) [-env0_get, bound, List.getElem?_cons_zero, List.getElem?_cons_succ, odt, odf, oip, oin, obt, obf, ont, onf, wrapI, owu, ow8, ow32, otd, oe0, oe1, oe2, oe3, oe4, oe5, oe6, otn, ot1, ot2, ot4, e0, e4, e6, e7]); first | done | rfl)); first | apply zk | (apply zn; (focus rfl); try (focus (first | rfl | (simp [e0, e4, e6, e7]; done)))) | (apply zo; (focus rfl)) | apply gv_u | apply gv_tt | apply gv_ff | apply gv_ft | apply gv_tf | (apply gv_split <;> intro hc <;> try simp only [decide_eq_true_eq, decide_eq_false_iff_not, beq_iff_eq, beq_eq_false_iff_ne, bne_iff_ne, bne_eq_false_iff_eq, Bool.not_true, Bool.not_false, ne_eq] at hc))
 | (simp (disch := omega) only [thenQ_normal, thenQ_exit, thenQ_ret, blockQ_normal, blockQ_ret, blockQ_exit_same, blockQ_exit_ne]))
end Go.Proofs.Ytlgbeekhaoiggaa
end

section
namespace Go.Proofs.Ytlgbeekhaoiggaa
open Go.AM
variable {f : Nat} {h : Heap}
def nvs (l : List Nat) : List Value := l.map fun n => .int .i64 (n : Nat)
theorem nvs_get (l : List Nat) (i : Nat) : (nvs l)[i]? = (l[i]?).map fun n => .int .i64 (n : Nat) := by simp [nvs]
abbrev NRow (h : Heap) (v : Value) (l : List Nat) : Prop := Row h 3 1 v l.length (nvs l)
theorem NRow.get {v : Value} {l : List Nat} (r : NRow h v l) (hl : 0 < l.length) : ∃ b o c cs, v = .slice (some ⟨b, o, none⟩) l.length c ∧ b < h.size ∧ h.cellsAt b = some cs ∧ ∀ i n, l[i]? = some n → cs[o + i]? = some (.int .i64 (n : Nat)) := by
  obtain ⟨a, c, rfl⟩ := r.form
  obtain ⟨b, o, cs, rfl, hb, hcs, hg⟩ := r.cell hl
  refine ⟨b, o, c, cs, rfl, hb, hcs, fun i n hi => ?_⟩
  have hil := (List.getElem?_eq_some_iff.1 hi).1
  rw [grab_get (by simpa using hg) hil, nvs_get, hi]; rfl
end Go.Proofs.Ytlgbeekhaoiggaa
end

section
namespace Go.Proofs.Ytlgbeekhaoiggaa
open Go.AM
def dval (b : UInt8) : Nat := b.toNat - 48
def isDig (b : UInt8) : Prop := 48 ≤ b.toNat ∧ b.toNat ≤ 57
instance {b : UInt8} : Decidable (isDig b) := by unfold isDig; infer_instance
def numV : List Nat → Nat
  | [] => 0
  | d :: ds => d + 10 * numV ds
def hn (n : Nat) (l : List UInt8) : Nat := l.foldl (fun n b => 10 * n + dval b) n
theorem hn_nil (n : Nat) : hn n [] = n := by simp only [hn, List.foldl_nil]
theorem hn_cons (n : Nat) (b : UInt8) (l : List UInt8) : hn n (b :: l) = hn (10 * n + dval b) l := by simp only [hn, List.foldl_cons]
theorem numV_app : ∀ (l : List Nat) (d : Nat), numV (l ++ [d]) = numV l + 10 ^ l.length * d
  | [], d => by simp [numV]
  | x :: l, d => by
    have := numV_app l d
    simp only [List.cons_append, numV, this, List.length_cons, Nat.pow_succ]
    rw [Nat.mul_add, Nat.mul_comm (10 ^ l.length) 10, Nat.mul_assoc]; omega
theorem hn_app (l m : List UInt8) (n : Nat) : hn n (l ++ m) = hn (hn n l) m := by
  induction l generalizing n with
  | nil => simp only [List.nil_append, hn_nil, hn_cons]
  | cons b l ih => simp only [List.cons_append, hn_nil, hn_cons, ih]
theorem hn_numV (l : List UInt8) : hn 0 l = numV ((l.map dval).reverse) := by
  have key : ∀ (l : List UInt8) (n : Nat), hn n l = numV ((l.map dval).reverse) + 10 ^ l.length * n := by
    intro l
    induction l with
    | nil => intro n; simp [hn_nil, hn_cons, numV]
    | cons b l ih =>
      intro n
      simp only [hn_nil, hn_cons, ih, List.map_cons, List.reverse_cons, numV_app, List.length_reverse, List.length_map, List.length_cons, Nat.pow_succ]
      rw [Nat.mul_add, Nat.mul_assoc]; omega
  simpa using key l 0
theorem hn_ge (l : List UInt8) (n : Nat) : n ≤ hn n l := by
  induction l generalizing n with
  | nil => simp only [hn_nil, hn_cons]; omega
  | cons b l ih => have := ih (10 * n + dval b); simp only [hn_nil, hn_cons]; omega
def most (neg : Prop) [Decidable neg] : Nat := if neg then 9223372036854775808 else 9223372036854775807
def digOk (neg : Prop) [Decidable neg] (l : List UInt8) : Prop := (∀ b ∈ l, isDig b) ∧ l ≠ [] ∧ ¬(l.head? = some 48 ∧ (l.length > 1 ∨ neg)) ∧ hn 0 l ≤ most neg
instance {neg : Prop} [Decidable neg] {l : List UInt8} : Decidable (digOk neg l) := by unfold digOk; infer_instance
def parseN (l : List UInt8) : Option Int :=
  if l.head? = some 45 then (if digOk True l.tail then some (-(hn 0 l.tail : Int)) else none) else if digOk False l then some (hn 0 l : Int) else none
def longest {α : Type} (p : List UInt8 → Option α) (l : List UInt8) : Nat → Option (α × Nat)
  | 0 => none
  | n + 1 => match p (l.take (n + 1)) with
    | some x => some (x, n + 1)
    | none => longest p l n
def digV (mst : Nat) : Bool → Nat → List UInt8 → Nat → Prop
  | _, _, _, 0 => True
  | _, _, [], _ + 1 => False
  | st, n, b :: l, m + 1 => digC mst (st = true) n b ∧ digV mst true (10 * n + dval b) l m
theorem digs_V {mst : Nat} (l : List UInt8) (st : Bool) (n m : Nat) : digV mst st n l m ↔ m ≤ (digs mst st n l).2 := by
  induction l generalizing st n m with
  | nil => cases m <;> simp [digV, digs]
  | cons b l ih =>
    cases m with
    | zero => simp [digV]
    | succ m =>
      have := ih true (10 * n + dval b) m
      rw [digV, digs]
      unfold dval at this ⊢
      split
      · rename_i hc; simp only [hc, true_and, this]; omega
      · rename_i hc; simp [hc]
theorem digs_val {mst : Nat} (l : List UInt8) (st : Bool) (n : Nat) : (digs mst st n l).1 = hn n (l.take (digs mst st n l).2) := by
  induction l generalizing st n with
  | nil => simp [digs, hn_nil, hn_cons]
  | cons b l ih =>
    have := ih true (10 * n + dval b)
    rw [digs]
    unfold dval at this
    split
    · simp only [List.take_succ_cons, hn_nil, hn_cons, dval]; exact this
    · simp [hn_nil, hn_cons]
theorem digV_pos {mst : Nat} (h9 : 9 ≤ mst) (m : Nat) (l : List UInt8) (n : Nat) (h1 : 1 ≤ n) (h2 : n ≤ mst) : digV mst true n l m ↔ m ≤ l.length ∧ (∀ b ∈ l.take m, isDig b) ∧ hn n (l.take m) ≤ mst := by
  induction l generalizing n m with
  | nil => cases m <;> simp [digV, hn_nil, hn_cons, h2]
  | cons b l ih =>
    rcases m with _ | m
    · simp [digV, hn_nil, hn_cons, h2]
    rw [digV, List.take_succ_cons]
    simp only [List.length_cons, List.mem_cons, forall_eq_or_imp, hn_nil, hn_cons]
    constructor
    · rintro ⟨⟨c1, c2, c3, c4⟩, hv⟩
      have hb : 10 * n + dval b ≤ mst := by unfold dval; omega
      obtain ⟨q1, q2, q3⟩ := (ih m (10 * n + dval b) (by omega) hb).1 hv
      exact ⟨by omega, ⟨⟨c1, c2⟩, q2⟩, q3⟩
    · rintro ⟨q1, ⟨⟨c1, c2⟩, q2⟩, q3⟩
      have hge := hn_ge (l.take m) (10 * n + dval b)
      have hb : 10 * n + dval b ≤ mst := by omega
      refine ⟨⟨c1, c2, fun _ => by omega, by unfold dval at hb; omega⟩, (ih m (10 * n + dval b) (by omega) hb).2 ⟨by omega, q2, q3⟩⟩
theorem digV_ok {neg : Prop} [Decidable neg] (l : List UInt8) (m : Nat) : (m ≤ l.length ∧ digOk neg (l.take m)) ↔ 1 ≤ m ∧ digV (most neg) false 0 l m ∧ ¬(neg ∧ hn 0 (l.take m) = 0) := by
  have h9 : 9 ≤ most neg := by unfold most; split <;> omega
  rcases m with _ | m
  · simp [digOk]
  rcases l with _ | ⟨b, l⟩
  · simp [digV]
  have hb0 : (b = 48) ↔ b.toNat = 48 := by rw [← UInt8.toNat_inj]; rfl
  rw [digV, List.take_succ_cons]
  simp only [digOk, List.length_cons, List.mem_cons, forall_eq_or_imp, hn_cons, List.head?_cons, Option.some.injEq, ne_eq, reduceCtorEq, not_false_eq_true, true_and, List.length_take, hb0, Nat.mul_zero, Nat.zero_add]
  by_cases hd : isDig b
  · obtain ⟨d1, d2⟩ := hd
    by_cases h0 : b.toNat = 48
    · have hv0 : dval b = 0 := by unfold dval; omega
      rw [hv0]
      rcases m with _ | m
      · simp only [List.take_zero, List.not_mem_nil, false_implies, implies_true, and_true, hn_nil, hn_cons, digV, digC, isDig, h0]
        simp
      · constructor
        · rintro ⟨q1, _, q2, _⟩
          exfalso; refine q2 ⟨h0, .inl ?_⟩; omega
        · rintro ⟨_, ⟨_, hv⟩, _⟩
          cases l with
          | nil => exact hv.elim
          | cons c l => exact absurd rfl (hv.1.2.2.1 rfl)
    · have hv1 : 1 ≤ dval b := by unfold dval; omega
      have hle : dval b ≤ most neg := by unfold dval; omega
      rw [digV_pos h9 m l (dval b) hv1 hle]
      have hge := hn_ge (l.take m) (dval b)
      constructor
      · rintro ⟨q1, ⟨_, q2⟩, _, q3⟩
        exact ⟨by omega, ⟨⟨d1, d2, fun e => by simp at e, Nat.zero_le _⟩, by omega, q2, q3⟩, fun e => by omega⟩
      · rintro ⟨_, ⟨_, q1, q2, q3⟩, _⟩
        exact ⟨by omega, ⟨⟨d1, d2⟩, q2⟩, fun e => h0 e.1, q3⟩
  · constructor
    · rintro ⟨_, ⟨q, _⟩, _⟩; exact absurd q hd
    · rintro ⟨_, ⟨⟨q1, q2, _⟩, _⟩, _⟩; exact absurd ⟨q1, q2⟩ hd
theorem longest_eq {α : Type} {p : List UInt8 → Option α} {l : List UInt8} {k : Nat} {x : α} : ∀ {n : Nat}, 1 ≤ k → k ≤ n → p (l.take k) = some x → (∀ m, k < m → m ≤ n → p (l.take m) = none) → longest p l n = some (x, k)
  | 0, h1, h2, _, _ => by omega
  | n + 1, h1, h2, hp, hm => by
    rw [longest]
    by_cases hk : k = n + 1
    · subst hk; rw [hp]
    · rw [hm (n + 1) (by omega) (by omega)]
      exact longest_eq h1 (by omega) hp (fun m a b => hm m a (by omega))
theorem longest_none {α : Type} {p : List UInt8 → Option α} {l : List UInt8} : ∀ {n : Nat}, (∀ m, 1 ≤ m → m ≤ n → p (l.take m) = none) → longest p l n = none
  | 0, _ => rfl
  | n + 1, hm => by rw [longest, hm (n + 1) (by omega) (by omega)]; exact longest_none (fun m a b => hm m a (by omega))
theorem hn_pow (l : List UInt8) (n : Nat) : 10 ^ l.length * n ≤ hn n l := by
  induction l generalizing n with
  | nil => simp [hn_nil]
  | cons b l ih =>
    have := ih (10 * n + dval b)
    rw [hn_cons, List.length_cons, Nat.pow_succ]
    rw [Nat.mul_add, ← Nat.mul_assoc] at this
    rw [Nat.mul_assoc] at this ⊢
    omega
theorem hn_take (l : List UInt8) {j k : Nat} (hj : j ≤ k) : hn 0 (l.take j) ≤ hn 0 (l.take k) := by
  have : l.take k = l.take j ++ (l.take k).drop j := by
    conv => lhs; rw [← List.take_append_drop j (l.take k)]
    rw [List.take_take, Nat.min_eq_left hj]
  rw [this, hn_app]; exact hn_ge _ _
theorem digOk_len {neg : Prop} [Decidable neg] {l : List UInt8} (h : digOk neg l) : l.length ≤ 19 := by
  obtain ⟨h1, h2, h3, h4⟩ := h
  have hm : most neg ≤ 9223372036854775808 := by unfold most; split <;> omega
  rcases l with _ | ⟨b, l⟩
  · simp
  · have hb := h1 b (by simp)
    by_cases hb0 : b = 48
    · have : l.length = 0 := by
        apply Classical.byContradiction; intro q
        exact h3 ⟨by simp [hb0], .inl (by simp; omega)⟩
      simp; omega
    · have hb1 : ¬ b.toNat = 48 := fun e => hb0 (UInt8.toNat_inj.1 (by rw [e]; rfl))
      have hd : 1 ≤ dval b := by have := hb.1; unfold dval; omega
      rw [hn_cons] at h4
      have hp := hn_pow l (10 * 0 + dval b)
      have hp2 : 10 ^ l.length * 1 ≤ 10 ^ l.length * (10 * 0 + dval b) := Nat.mul_le_mul_left _ (by omega)
      apply Classical.byContradiction; intro q
      have : 10 ^ 19 ≤ 10 ^ l.length := Nat.pow_le_pow_right (by omega) (by simp at q; omega)
      have e : (10 : Nat) ^ 19 = 10000000000000000000 := by decide
      omega
theorem satRead_longest (l : List UInt8) : longest parseN l (min 20 l.length) = if (satRead l).2 = 0 then none else some (satRead l) := by
  have key : ∀ (neg : Prop) [Decidable neg] (t : List UInt8), (∀ m, 1 ≤ m → m ≤ t.length → (digOk neg (t.take m) ↔ m ≤ (digs (most neg) false 0 t).2 ∧ ¬(neg ∧ hn 0 (t.take m) = 0))) := by
    intro neg _ t m h1 hm
    have := digV_ok (neg := neg) t m
    rw [digs_V] at this
    constructor
    · intro h; exact (this.1 ⟨hm, h⟩).2
    · intro h; exact (this.2 ⟨h1, h⟩).2
  by_cases hh : l.head? = some 45
  · obtain ⟨t, rfl⟩ : ∃ t, l = 45 :: t := by cases l with | nil => simp at hh | cons a t => simp at hh; subst hh; exact ⟨t, rfl⟩
    have hK : (satNeg t).2 ≤ t.length := digs_len
    have hv := digs_val (mst := 9223372036854775808) t false 0
    have k0 := key True t
    have hmst : most True = 9223372036854775808 := by simp [most]
    rw [hmst] at k0
    have hp : ∀ m, 1 ≤ m → parseN ((45 :: t).take m) = if digOk True (t.take (m - 1)) then some (-(hn 0 (t.take (m - 1)) : Int)) else none := fun m hm => by
      obtain ⟨m, rfl⟩ : ∃ q, m = q + 1 := ⟨m - 1, by omega⟩
      unfold parseN; rw [List.take_succ_cons, List.head?_cons, if_pos rfl]; rfl
    have hs : satRead (45 :: t) = negR (satNeg t) := by unfold satRead; rw [List.head?_cons, if_pos rfl]; rfl
    rw [hs]
    have h00 : ¬ digOk True (t.take 0) := by simp [digOk]
    by_cases hz : (satNeg t).2 = 0 ∨ (satNeg t).1 = 0
    · rw [show negR (satNeg t) = (0, 0) from if_pos hz, if_pos rfl]
      refine longest_none (fun m h1 h2 => ?_)
      rw [hp m h1, if_neg]
      intro q
      by_cases hm1 : m - 1 = 0
      · rw [hm1] at q; exact h00 q
      · obtain ⟨q1, q2⟩ := (k0 (m - 1) (by omega) (by simp at h2; omega)).1 q
        rcases hz with hz | hz
        · unfold satNeg at hz; omega
        · unfold satNeg at hz
          rw [hv] at hz
          have := hn_take t q1
          exact q2 ⟨trivial, by omega⟩
    · rw [show negR (satNeg t) = (-((satNeg t).1 : Int), (satNeg t).2 + 1) from if_neg hz, if_neg (by simp)]
      have hok : digOk True (t.take (satNeg t).2) := (k0 (satNeg t).2 (by omega) hK).2 ⟨Nat.le_refl _, fun q => hz (.inr (by unfold satNeg at q ⊢; rw [hv]; exact q.2))⟩
      have hl := digOk_len hok
      rw [List.length_take, Nat.min_eq_left hK] at hl
      refine longest_eq (by omega) (by simp; omega) ?_ (fun m h1 h2 => ?_)
      · rw [hp _ (by omega), Nat.add_sub_cancel, if_pos hok]
        unfold satNeg; rw [hv]
      · rw [hp m (by omega), if_neg]
        intro q
        have := ((k0 (m - 1) (by omega) (by simp at h2; omega)).1 q).1
        unfold satNeg at h1; omega
  · have hK : (satPos l).2 ≤ l.length := digs_len
    have hv := digs_val (mst := 9223372036854775807) l false 0
    have k0 := key False l
    have hmst : most False = 9223372036854775807 := by simp [most]
    rw [hmst] at k0
    have hp : ∀ m, 1 ≤ m → parseN (l.take m) = if digOk False (l.take m) then some (hn 0 (l.take m) : Int) else none := fun m hm => by
      have : (l.take m).head? = l.head? := by
        obtain ⟨m, rfl⟩ : ∃ q, m = q + 1 := ⟨m - 1, by omega⟩
        cases l <;> simp
      unfold parseN; rw [if_neg (by rw [this]; exact hh)]
    have hs : satRead l = posR (satPos l) := by unfold satRead; rw [if_neg hh]
    rw [hs]
    by_cases hz : (satPos l).2 = 0
    · rw [show posR (satPos l) = (0, 0) from if_pos hz, if_pos rfl]
      refine longest_none (fun m h1 h2 => ?_)
      rw [hp m h1, if_neg]
      intro q
      have := ((k0 m h1 (by omega)).1 q).1
      unfold satPos at hz; omega
    · rw [show posR (satPos l) = (((satPos l).1 : Int), (satPos l).2) from if_neg hz, if_neg hz]
      have hok : digOk False (l.take (satPos l).2) := (k0 (satPos l).2 (by omega) hK).2 ⟨Nat.le_refl _, by simp⟩
      have hl := digOk_len hok
      rw [List.length_take, Nat.min_eq_left hK] at hl
      refine longest_eq (by omega) (by omega) ?_ (fun m h1 h2 => ?_)
      · rw [hp _ (by omega), if_pos hok]
        unfold satPos; rw [hv]
      · rw [hp m (by omega), if_neg]
        intro q
        have := ((k0 m (by omega) (by omega)).1 q).1
        unfold satPos at h1; omega
theorem satRead_zero {l : List UInt8} (h : (satRead l).2 = 0) : satRead l = (0, 0) := by
  unfold satRead at h ⊢
  split
  · rename_i hh; rw [if_pos hh] at h; unfold negR at h ⊢; split
    · rfl
    · rename_i hz; rw [if_neg hz] at h; simp at h
  · rename_i hh; rw [if_neg hh] at h; unfold posR at h ⊢; split
    · rfl
    · rename_i hz; rw [if_neg hz] at h; exact absurd h hz
end Go.Proofs.Ytlgbeekhaoiggaa
end

section
namespace Go.Proofs.Ytlgbeekhaoiggaa
open Go.AM
set_option maxHeartbeats 4000000
variable {f : Nat} {h : Heap}
theorem NRow.new {l : List Nat} {n b : Nat} (hb : b = h.size) (hn : n = l.length) : NRow (h.push (.cells (nvs l) 3)) (.slice (some ⟨b, 0, none⟩) n n) l := by
  subst hn hb
  exact Buf.row (f := 0) (.inr ⟨h.size, _, rfl, by simp [nvs], by simp, Nat.zero_le _⟩) (by omega) (by simp [nvs])
end Go.Proofs.Ytlgbeekhaoiggaa
end

section
namespace Go.Proofs.Ytlgbeekhaoiggaa
open Go.AM
set_option maxHeartbeats 4000000
variable {f : Nat} {h : Heap}
theorem nvs_app (l : List Nat) (d : Nat) : nvs (l ++ [d]) = nvs l ++ [.int .i64 (d : Nat)] := by simp [nvs]
theorem nvs_one (l : List Nat) : (nvs l).all Go.AM.one = true := by simp [nvs]
end Go.Proofs.Ytlgbeekhaoiggaa
end
