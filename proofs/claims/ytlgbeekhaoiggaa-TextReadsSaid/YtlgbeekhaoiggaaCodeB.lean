import Derived.Test.YtlgbeekhaoiggaaCodeA
set_option linter.all false
section
namespace Go.Proofs.Ytlgbeekhaoiggaa
open Go.AM
abbrev sv (l : List UInt8) : Value := .string ⟨l.toArray⟩
@[simp] theorem ba_size (l : List UInt8) : (⟨l.toArray⟩ : ByteArray).size = l.length := by simp [ByteArray.size]
@[simp] theorem ba_toList (l : List UInt8) : (⟨l.toArray⟩ : ByteArray).toList = l := by
  have h : ∀ (bs : ByteArray) (i : Nat) (r : List UInt8), ByteArray.toList.loop bs i r = r.reverse ++ bs.data.toList.drop i := by
    intro bs i r
    induction hn : bs.size - i generalizing i r with
    | zero => rw [ByteArray.toList.loop]; rw [if_neg (by omega)]; rw [List.drop_eq_nil_of_le (by simp; have : bs.size = bs.data.size := rfl; omega)]; simp
    | succ n ih =>
      have hlt : i < bs.size := by omega
      rw [ByteArray.toList.loop, if_pos hlt, ih (i + 1) _ (by omega)]
      have hlt' : i < bs.data.toList.length := by simpa using hlt
      rw [List.drop_eq_getElem_cons hlt']
      simp only [List.reverse_cons, List.append_assoc, List.singleton_append]
      congr 2
      have : i < bs.data.size := hlt
      simp only [ByteArray.get!]
      exact getElem!_pos bs.data i this
  rw [ByteArray.toList, h]; simp
@[simp] theorem ba_extract (l : List UInt8) (i j : Nat) : (⟨l.toArray⟩ : ByteArray).extract i j = ⟨((l.take j).drop i).toArray⟩ := by
  apply ByteArray.ext
  rw [ByteArray.data_extract]
  simp [List.drop_take]
@[simp] theorem ba_append (l m : List UInt8) : (⟨l.toArray⟩ ++ ⟨m.toArray⟩ : ByteArray) = ⟨(l ++ m).toArray⟩ := by
  apply ByteArray.ext
  simp
def digC (most : Nat) (st : Prop) (n : Nat) (b : UInt8) : Prop := 48 ≤ b.toNat ∧ b.toNat ≤ 57 ∧ (st → n ≠ 0) ∧ n ≤ (most - (b.toNat - 48)) / 10
instance {most : Nat} {st : Prop} [Decidable st] {n : Nat} {b : UInt8} : Decidable (digC most st n b) := by unfold digC; infer_instance
def digs (most : Nat) : Bool → Nat → List UInt8 → Nat × Nat
  | _, n, [] => (n, 0)
  | st, n, b :: l => if digC most (st = true) n b then ((digs most true (10 * n + (b.toNat - 48)) l).1, (digs most true (10 * n + (b.toNat - 48)) l).2 + 1) else (n, 0)
theorem digs_len {most : Nat} : ∀ {l : List UInt8} {st : Bool} {n : Nat}, (digs most st n l).2 ≤ l.length
  | [], _, _ => by simp [digs]
  | b :: l, st, n => by
    rw [digs]; split
    · have := @digs_len most l true (10 * n + (b.toNat - 48)); simp; omega
    · simp
theorem digs_le {most : Nat} : ∀ {l : List UInt8} {st : Bool} {n : Nat}, 9 ≤ most → n ≤ most → (digs most st n l).1 ≤ most
  | [], _, _, _, h => by simpa [digs] using h
  | b :: l, st, n, h9, h => by
    rw [digs]; split
    · rename_i hc
      refine digs_le (l := l) (st := true) h9 ?_
      obtain ⟨h1, h2, h3, h4⟩ := hc; omega
    · exact h
def satNeg (l : List UInt8) : Nat × Nat := digs 9223372036854775808 false 0 l
def satPos (l : List UInt8) : Nat × Nat := digs 9223372036854775807 false 0 l
def negR (p : Nat × Nat) : Int × Nat := if p.2 = 0 ∨ p.1 = 0 then (0, 0) else (-(p.1 : Int), p.2 + 1)
def posR (p : Nat × Nat) : Int × Nat := if p.2 = 0 then (0, 0) else ((p.1 : Int), p.2)
def satRead (l : List UInt8) : Int × Nat := if l.head? = some 45 then negR (satNeg l.tail) else posR (satPos l)
variable {f : Nat} {h : Heap}
theorem size_runs {n : Int} (hn : -9223372036854775808 ≤ n ∧ n ≤ 9223372036854775807) : Runs X ⟨f, []⟩ 92 [.int .i64 n] h (.int .u64 (n.natAbs : Nat)) h := by
  refine Runs_of rfl f92_is ?_
  simp only [f92r0, f92r1, f92r2, f92r3, f92b]
  repeat' (first
 | refine za ?_ | refine zb ?_ | refine zc ?_ | refine zd ?_ | refine ze ?_ | refine zf ?_ | refine zg ?_ | refine zh ?_ | (refine zi ?_; try refine RgD_plain rfl ?_) | refine w_drawn rfl ?_ | refine zj ?_ | refine zl ?_
 | ((first | apply zs | (apply zt; (focus rfl)) | (apply zu; (focus rfl)) | (apply zv; (focus rfl)) | apply zx | apply zy | apply zB | apply zC | apply zD | apply zE | apply zF); (focus ((conv => lhs; simp (disch := omega) [-env0_get, bound, List.getElem?_cons_zero, List.getElem?_cons_succ, odt, odf, oip, oin, obt, obf, ont, onf, wrapI, owu, ow8, ow32, otd, oe0, oe1, oe2, oe3, oe4, oe5, oe6, otn, ot1, ot2, ot4]); first | done | rfl)); first | apply zk | (apply zn; (focus rfl); try (focus (first | rfl | (simp; done)))) | (apply zo; (focus rfl)) | apply gv_u | apply gv_tt | apply gv_ff | apply gv_ft | apply gv_tf | (apply gv_split <;> intro hc <;> try simp only [decide_eq_true_eq, decide_eq_false_iff_not, beq_iff_eq, beq_eq_false_iff_ne, bne_iff_ne, bne_eq_false_iff_eq, Bool.not_true, Bool.not_false, ne_eq] at hc))
 | (simp (disch := omega) only [thenQ_normal, thenQ_exit, thenQ_ret, blockQ_normal, blockQ_ret, blockQ_exit_same, blockQ_exit_ne]))
  all_goals (simp_all [IntKind.wrap, IntKind.bits, IntKind.signed]; omega)
theorem satRead_loop {h : Heap} {l : List UInt8} {from_ most : Nat} {Q : AExit → Env → Heap → Prop} (hl : l.length ≤ 1000000) (hm : 9 ≤ most ∧ most ≤ 9223372036854775808) (R : Nat × Nat)
    (K : ∀ env, env 0 = sv l → env 4 = .int .i64 from_ → env 6 = .int .u64 (R.1 : Nat) → env 7 = .int .i64 (R.2 : Nat) → Q (.exit 0) env h) :
    ∀ (env : Env) (at_ n : Nat), env 0 = sv l → env 4 = .int .i64 from_ → env 5 = .int .u64 most → env 6 = .int .u64 n → env 7 = .int .i64 at_ → from_ ≤ at_ → at_ ≤ l.length → n ≤ most →
      (digs most (decide (from_ < at_)) n (l.drop at_)).1 = R.1 → at_ + (digs most (decide (from_ < at_)) n (l.drop at_)).2 = R.2 → Ok X ⟨f, []⟩ (.loop f115l14) env h Q := by
  intro env at_ n e0 e4 e5 e6 e7 hf ha hn r1 r2
  refine w_loop (A := Nat × Nat) (fun a env h' => h' = h ∧ env 0 = sv l ∧ env 4 = .int .i64 from_ ∧ env 5 = .int .u64 most ∧ env 6 = .int .u64 (a.2 : Nat) ∧ env 7 = .int .i64 (a.1 : Nat) ∧ from_ ≤ a.1 ∧ a.1 ≤ l.length ∧ a.2 ≤ most ∧
    (digs most (decide (from_ < a.1)) a.2 (l.drop a.1)).1 = R.1 ∧ a.1 + (digs most (decide (from_ < a.1)) a.2 (l.drop a.1)).2 = R.2) (fun a => l.length - a.1) (a0 := (at_, n)) ⟨rfl, e0, e4, e5, e6, e7, hf, ha, hn, r1, r2⟩ ?_
  clear e0 e4 e5 e6 e7 hf ha hn r1 r2
  rintro ⟨at_, n⟩ env h' ⟨rfl, e0, e4, e5, e6, e7, hf, ha, hn, r1, r2⟩
  simp only at e6 e7 hf ha hn r1 r2 ⊢
  simp only [f115l14, f115r9, f115r10, f115r11, f115r12, f115r13]
  by_cases hlt : at_ < l.length
  · obtain ⟨b, hb⟩ : ∃ b, l[at_] = b := ⟨_, rfl⟩
    have hd : l.drop at_ = b :: l.drop (at_ + 1) := by
      rw [List.drop_eq_getElem_cons hlt, hb]
    rw [hd, digs] at r1 r2
    by_cases hg : digC most (decide (from_ < at_) = true) n b
    · rw [if_pos hg] at r1 r2
      simp only [digC, decide_eq_true_eq] at hg
      repeat' (first
 | refine za ?_ | refine zb ?_ | refine zc ?_ | refine zd ?_ | refine ze ?_ | refine zf ?_ | refine zg ?_ | refine zh ?_ | (refine zi ?_; try refine RgD_plain rfl ?_) | refine w_drawn rfl ?_ | refine zj ?_ | refine zl ?_
 | ((first | apply zs | (apply zt; (focus rfl)) | (apply zu; (focus rfl)) | (apply zv; (focus rfl)) | apply zx | apply zy | apply zB | apply zC | apply zD | apply zE | apply zF); (focus ((conv => lhs; simp (disch := omega) [-env0_get, bound, List.getElem?_cons_zero, List.getElem?_cons_succ, odt, odf, oip, oin, obt, obf, ont, onf, wrapI, owu, ow8, ow32, otd, oe0, oe1, oe2, oe3, oe4, oe5, oe6, otn, ot1, ot2, ot4, e0, e4, e5, e6, e7, hb]); first | done | rfl)); first | apply zk | (apply zn; (focus rfl); try (focus (first | rfl | (simp [e0, e4, e5, e6, e7, hb]; done)))) | (apply zo; (focus rfl)) | apply gv_u | apply gv_tt | apply gv_ff | apply gv_ft | apply gv_tf | (apply gv_split <;> intro hc <;> try simp only [decide_eq_true_eq, decide_eq_false_iff_not, beq_iff_eq, beq_eq_false_iff_ne, bne_iff_ne, bne_eq_false_iff_eq, Bool.not_true, Bool.not_false, ne_eq] at hc))
 | (simp (disch := omega) only [thenQ_normal, thenQ_exit, thenQ_ret, blockQ_normal, blockQ_ret, blockQ_exit_same, blockQ_exit_ne]))
      all_goals
        refine ⟨(at_ + 1, 10 * n + (b.toNat - 48)), ⟨by trivial, by simp [e0], by simp [e4], by simp [e5], ?_, by simp, by simp only; omega, by simp only; omega, by simp only; omega, ?_, ?_⟩, by simp only; omega⟩
        · simp; omega
        · simp only; rw [decide_eq_true (by omega : from_ < at_ + 1)]; exact r1
        · simp only; rw [decide_eq_true (by omega : from_ < at_ + 1)]; simp only at r2; omega
    · rw [if_neg hg] at r1 r2
      simp only [digC, decide_eq_true_eq] at hg
      repeat' (first
 | refine za ?_ | refine zb ?_ | refine zc ?_ | refine zd ?_ | refine ze ?_ | refine zf ?_ | refine zg ?_ | refine zh ?_ | (refine zi ?_; try refine RgD_plain rfl ?_) | refine w_drawn rfl ?_ | refine zj ?_ | refine zl ?_
 | ((first | apply zs | (apply zt; (focus rfl)) | (apply zu; (focus rfl)) | (apply zv; (focus rfl)) | apply zx | apply zy | apply zB | apply zC | apply zD | apply zE | apply zF); (focus ((conv => lhs; simp (disch := omega) [-env0_get, bound, List.getElem?_cons_zero, List.getElem?_cons_succ, odt, odf, oip, oin, obt, obf, ont, onf, wrapI, owu, ow8, ow32, otd, oe0, oe1, oe2, oe3, oe4, oe5, oe6, otn, ot1, ot2, ot4, e0, e4, e5, e6, e7, hb]); first | done | rfl)); first | apply zk | (apply zn; (focus rfl); try (focus (first | rfl | (simp [e0, e4, e5, e6, e7, hb]; done)))) | (apply zo; (focus rfl)) | apply gv_u | apply gv_tt | apply gv_ff | apply gv_ft | apply gv_tf | (apply gv_split <;> intro hc <;> try simp only [decide_eq_true_eq, decide_eq_false_iff_not, beq_iff_eq, beq_eq_false_iff_ne, bne_iff_ne, bne_eq_false_iff_eq, Bool.not_true, Bool.not_false, ne_eq] at hc))
 | (simp (disch := omega) only [thenQ_normal, thenQ_exit, thenQ_ret, blockQ_normal, blockQ_ret, blockQ_exit_same, blockQ_exit_ne]))
      all_goals exact K _ (by simp [e0]) (by simp [e4]) (by simp [e6, ← r1]) (by simp [e7, ← r2])
  · have hd : l.drop at_ = [] := List.drop_eq_nil_of_le (by omega)
    rw [hd, digs] at r1 r2
    repeat' (first
 | refine za ?_ | refine zb ?_ | refine zc ?_ | refine zd ?_ | refine ze ?_ | refine zf ?_ | refine zg ?_ | refine zh ?_ | (refine zi ?_; try refine RgD_plain rfl ?_) | refine w_drawn rfl ?_ | refine zj ?_ | refine zl ?_
 | ((first | apply zs | (apply zt; (focus rfl)) | (apply zu; (focus rfl)) | (apply zv; (focus rfl)) | apply zx | apply zy | apply zB | apply zC | apply zD | apply zE | apply zF); (focus ((conv => lhs; simp (disch := omega) [-env0_get, bound, List.getElem?_cons_zero, List.getElem?_cons_succ, odt, odf, oip, oin, obt, obf, ont, onf, wrapI, owu, ow8, ow32, otd, oe0, oe1, oe2, oe3, oe4, oe5, oe6, otn, ot1, ot2, ot4, e0, e4, e5, e6, e7]); first | done | rfl)); first | apply zk | (apply zn; (focus rfl); try (focus (first | rfl | (simp [e0, e4, e5, e6, e7]; done)))) | (apply zo; (focus rfl)) | apply gv_u | apply gv_tt | apply gv_ff | apply gv_ft | apply gv_tf | (apply gv_split <;> intro hc <;> try simp only [decide_eq_true_eq, decide_eq_false_iff_not, beq_iff_eq, beq_eq_false_iff_ne, bne_iff_ne, bne_eq_false_iff_eq, Bool.not_true, Bool.not_false, ne_eq] at hc))
 | (simp (disch := omega) only [thenQ_normal, thenQ_exit, thenQ_ret, blockQ_normal, blockQ_ret, blockQ_exit_same, blockQ_exit_ne]))
    all_goals exact K _ (by simp [e0]) (by simp [e4]) (by simp [e6, ← r1]) (by simp [e7, ← r2])
theorem sat_len {l : List UInt8} : (satRead l).2 ≤ l.length := by
  unfold satRead
  have h1 : (satNeg l.tail).2 ≤ l.tail.length := digs_len
  have h2 : (satPos l).2 ≤ l.length := digs_len
  cases l with
  | nil => simp [satPos, posR, digs]
  | cons a l =>
    simp only [List.tail_cons, List.length_cons] at h1 h2 ⊢
    split
    · unfold negR; split <;> simp; omega
    · unfold posR; split <;> simp; omega
theorem satRead_runs {l : List UInt8} (hl : l.length ≤ 1000000) : Runs X ⟨f, []⟩ 115 [sv l] h (.tuple #[.int .i64 (satRead l).1, .int .i64 (satRead l).2]) h := by
  refine Runs_of rfl f115_is ?_
  simp only [f115b, f115r0, f115r1, f115r2, f115r3, f115r4, f115r5, f115r6, f115r7, f115r8, f115r15, f115r16, f115r17, f115r18, f115r19]
  have wn : ∀ n : Nat, n ≤ 9223372036854775808 → IntKind.i64.wrap (IntKind.u64.wrap (-(n : Int))) = -(n : Int) := fun n hn => by
    simp [IntKind.wrap, IntKind.bits, IntKind.signed]; omega
  rcases l with _ | ⟨a, l⟩
  · repeat' (first
 | refine za ?_ | refine zb ?_ | refine zc ?_ | refine zd ?_ | refine ze ?_ | refine zf ?_ | refine zg ?_ | refine zh ?_ | (refine zi ?_; try refine RgD_plain rfl ?_) | refine w_drawn rfl ?_ | refine zj ?_ | refine zl ?_
 | ((first | apply zs | (apply zt; (focus rfl)) | (apply zu; (focus rfl)) | (apply zv; (focus rfl)) | apply zw | apply zx | apply zy | apply zB | apply zC | apply zD | apply zE | apply zF); (focus ((conv => lhs; simp (disch := omega) [-env0_get, bound, List.getElem?_cons_zero, List.getElem?_cons_succ, odt, odf, oip, oin, obt, obf, ont, onf, wrapI, owu, ow8, ow32, otd, oe0, oe1, oe2, oe3, oe4, oe5, oe6, otn, ot1, ot2, ot4]); first | done | rfl)); first | apply zk | (apply zn; (focus rfl); try (focus (first | rfl | (simp; done)))) | (apply zo; (focus rfl)) | apply gv_u | apply gv_tt | apply gv_ff | apply gv_ft | apply gv_tf | (apply gv_split <;> intro hc <;> try simp only [decide_eq_true_eq, decide_eq_false_iff_not, beq_iff_eq, beq_eq_false_iff_ne, bne_iff_ne, bne_eq_false_iff_eq, Bool.not_true, Bool.not_false, ne_eq] at hc) | exact (size_runs (by omega)))
 | (simp (disch := omega) only [thenQ_normal, thenQ_exit, thenQ_ret, blockQ_normal, blockQ_ret, blockQ_exit_same, blockQ_exit_ne]))
    refine satRead_loop (l := []) (from_ := 0) (most := 9223372036854775807) hl (by omega) (0, 0) (fun env e0 e4 e6 e7 => ?_) _ 0 0 (by simp) (by simp) (by simp) (by simp) (by simp) (by omega) (by simp) (by omega) (by simp [digs]) (by simp [digs])
    repeat' (first
 | refine za ?_ | refine zb ?_ | refine zc ?_ | refine zd ?_ | refine ze ?_ | refine zf ?_ | refine zg ?_ | refine zh ?_ | (refine zi ?_; try refine RgD_plain rfl ?_) | refine w_drawn rfl ?_ | refine zj ?_ | refine zl ?_
 | ((first | apply zs | (apply zt; (focus rfl)) | (apply zu; (focus rfl)) | (apply zv; (focus rfl)) | apply zx | apply zy | apply zB | apply zC | apply zD | apply zE | apply zF); (focus ((conv => lhs; simp (disch := omega) [-env0_get, bound, List.getElem?_cons_zero, List.getElem?_cons_succ, odt, odf, oip, oin, obt, obf, ont, onf, wrapI, owu, ow8, ow32, otd, oe0, oe1, oe2, oe3, oe4, oe5, oe6, otn, ot1, ot2, ot4, e0, e4, e6, e7, satRead, satPos, posR, digs]); first | done | rfl)); first | apply zk | (apply zn; (focus rfl); try (focus (first | rfl | (simp [e0, e4, e6, e7, satRead, satPos, posR, digs]; done)))) | (apply zo; (focus rfl)) | apply gv_u | apply gv_tt | apply gv_ff | apply gv_ft | apply gv_tf | (apply gv_split <;> intro hc <;> try simp only [decide_eq_true_eq, decide_eq_false_iff_not, beq_iff_eq, beq_eq_false_iff_ne, bne_iff_ne, bne_eq_false_iff_eq, Bool.not_true, Bool.not_false, ne_eq] at hc))
 | (simp (disch := omega) only [thenQ_normal, thenQ_exit, thenQ_ret, blockQ_normal, blockQ_ret, blockQ_exit_same, blockQ_exit_ne]))
  · simp only [List.length_cons] at hl
    by_cases ha : a = 45
    · subst ha
      have hle : (satNeg l).1 ≤ 9223372036854775808 := digs_le (by omega) (by omega)
      have hln : (satNeg l).2 ≤ l.length := digs_len
      repeat' (first
 | refine za ?_ | refine zb ?_ | refine zc ?_ | refine zd ?_ | refine ze ?_ | refine zf ?_ | refine zg ?_ | refine zh ?_ | (refine zi ?_; try refine RgD_plain rfl ?_) | refine w_drawn rfl ?_ | refine zj ?_ | refine zl ?_
 | ((first | apply zs | (apply zt; (focus rfl)) | (apply zu; (focus rfl)) | (apply zv; (focus rfl)) | apply zw | apply zx | apply zy | apply zB | apply zC | apply zD | apply zE | apply zF); (focus ((conv => lhs; simp (disch := omega) [-env0_get, bound, List.getElem?_cons_zero, List.getElem?_cons_succ, odt, odf, oip, oin, obt, obf, ont, onf, wrapI, owu, ow8, ow32, otd, oe0, oe1, oe2, oe3, oe4, oe5, oe6, otn, ot1, ot2, ot4]); first | done | rfl)); first | apply zk | (apply zn; (focus rfl); try (focus (first | rfl | (simp; done)))) | (apply zo; (focus rfl)) | apply gv_u | apply gv_tt | apply gv_ff | apply gv_ft | apply gv_tf | (apply gv_split <;> intro hc <;> try simp only [decide_eq_true_eq, decide_eq_false_iff_not, beq_iff_eq, beq_eq_false_iff_ne, bne_iff_ne, bne_eq_false_iff_eq, Bool.not_true, Bool.not_false, ne_eq] at hc) | exact (size_runs (by omega)))
 | (simp (disch := omega) only [thenQ_normal, thenQ_exit, thenQ_ret, blockQ_normal, blockQ_ret, blockQ_exit_same, blockQ_exit_ne]))
      refine satRead_loop (l := 45 :: l) (from_ := 1) (most := 9223372036854775808) (by simpa using hl) (by omega) ((satNeg l).1, 1 + (satNeg l).2) (fun env e0 e4 e6 e7 => ?_) _ 1 0 (by simp) (by simp) (by simp) (by simp) (by simp) (by omega) (by simp) (by omega) (by simp [satNeg]) (by simp [satNeg])
      by_cases hz : (satNeg l).2 = 0 ∨ (satNeg l).1 = 0
      · have e : satRead (45 :: l) = (0, 0) := by unfold satRead; rw [List.head?_cons, if_pos rfl]; exact if_pos hz
        rw [e]
        repeat' (first
 | refine za ?_ | refine zb ?_ | refine zc ?_ | refine zd ?_ | refine ze ?_ | refine zf ?_ | refine zg ?_ | refine zh ?_ | (refine zi ?_; try refine RgD_plain rfl ?_) | refine w_drawn rfl ?_ | refine zj ?_ | refine zl ?_
 | ((first | apply zs | (apply zt; (focus rfl)) | (apply zu; (focus rfl)) | (apply zv; (focus rfl)) | apply zx | apply zy | apply zB | apply zC | apply zD | apply zE | apply zF); (focus ((conv => lhs; simp (disch := omega) [-env0_get, bound, List.getElem?_cons_zero, List.getElem?_cons_succ, odt, odf, oip, oin, obt, obf, ont, onf, wrapI, owu, ow8, ow32, otd, oe0, oe1, oe2, oe3, oe4, oe5, oe6, otn, ot1, ot2, ot4, e0, e4, e6, e7]); first | done | rfl)); first | apply zk | (apply zn; (focus rfl); try (focus (first | rfl | (simp [e0, e4, e6, e7]; done)))) | (apply zo; (focus rfl)) | apply gv_u | apply gv_tt | apply gv_ff | apply gv_ft | apply gv_tf | (apply gv_split <;> intro hc <;> try simp only [decide_eq_true_eq, decide_eq_false_iff_not, beq_iff_eq, beq_eq_false_iff_ne, bne_iff_ne, bne_eq_false_iff_eq, Bool.not_true, Bool.not_false, ne_eq] at hc))
 | (simp (disch := omega) only [thenQ_normal, thenQ_exit, thenQ_ret, blockQ_normal, blockQ_ret, blockQ_exit_same, blockQ_exit_ne]))
      · have e : satRead (45 :: l) = (-((satNeg l).1 : Int), (satNeg l).2 + 1) := by unfold satRead; rw [List.head?_cons, if_pos rfl]; exact if_neg hz
        rw [e]
        repeat' (first
 | refine za ?_ | refine zb ?_ | refine zc ?_ | refine zd ?_ | refine ze ?_ | refine zf ?_ | refine zg ?_ | refine zh ?_ | (refine zi ?_; try refine RgD_plain rfl ?_) | refine w_drawn rfl ?_ | refine zj ?_ | refine zl ?_
 | ((first | apply zs | (apply zt; (focus rfl)) | (apply zu; (focus rfl)) | (apply zv; (focus rfl)) | apply zx | apply zy | apply zB | apply zC | apply zD | apply zE | apply zF); (focus ((conv => lhs; simp (disch := omega) [-env0_get, bound, List.getElem?_cons_zero, List.getElem?_cons_succ, odt, odf, oip, oin, obt, obf, ont, onf, wrapI, owu, ow8, ow32, otd, oe0, oe1, oe2, oe3, oe4, oe5, oe6, otn, ot1, ot2, ot4, e0, e4, e6, e7, wn _ hle, Int.add_comm]); first | done | rfl)); first | apply zk | (apply zn; (focus rfl); try (focus (first | rfl | (simp [e0, e4, e6, e7, wn _ hle, Int.add_comm]; done)))) | (apply zo; (focus rfl)) | apply gv_u | apply gv_tt | apply gv_ff | apply gv_ft | apply gv_tf | (apply gv_split <;> intro hc <;> try simp only [decide_eq_true_eq, decide_eq_false_iff_not, beq_iff_eq, beq_eq_false_iff_ne, bne_iff_ne, bne_eq_false_iff_eq, Bool.not_true, Bool.not_false, ne_eq] at hc))
 | (simp (disch := omega) only [thenQ_normal, thenQ_exit, thenQ_ret, blockQ_normal, blockQ_ret, blockQ_exit_same, blockQ_exit_ne]))
        simp [tup]; omega
    · have hle : (satPos (a :: l)).1 ≤ 9223372036854775807 := digs_le (by omega) (by omega)
      have hln : (satPos (a :: l)).2 ≤ (a :: l).length := digs_len
      simp only [List.length_cons] at hln
      have ha' : ¬ a.toNat = 45 := fun q => ha (UInt8.toNat_inj.1 (by rw [q]; rfl))
      repeat' (first
 | refine za ?_ | refine zb ?_ | refine zc ?_ | refine zd ?_ | refine ze ?_ | refine zf ?_ | refine zg ?_ | refine zh ?_ | (refine zi ?_; try refine RgD_plain rfl ?_) | refine w_drawn rfl ?_ | refine zj ?_ | refine zl ?_
 | ((first | apply zs | (apply zt; (focus rfl)) | (apply zu; (focus rfl)) | (apply zv; (focus rfl)) | apply zw | apply zx | apply zy | apply zB | apply zC | apply zD | apply zE | apply zF); (focus ((conv => lhs; simp (disch := omega) [-env0_get, bound, List.getElem?_cons_zero, List.getElem?_cons_succ, odt, odf, oip, oin, obt, obf, ont, onf, wrapI, owu, ow8, ow32, otd, oe0, oe1, oe2, oe3, oe4, oe5, oe6, otn, ot1, ot2, ot4]); first | done | rfl)); first | apply zk | (apply zn; (focus rfl); try (focus (first | rfl | (simp; done)))) | (apply zo; (focus rfl)) | apply gv_u | apply gv_tt | apply gv_ff | apply gv_ft | apply gv_tf | (apply gv_split <;> intro hc <;> try simp only [decide_eq_true_eq, decide_eq_false_iff_not, beq_iff_eq, beq_eq_false_iff_ne, bne_iff_ne, bne_eq_false_iff_eq, Bool.not_true, Bool.not_false, ne_eq] at hc) | exact (size_runs (by omega)))
 | (simp (disch := omega) only [thenQ_normal, thenQ_exit, thenQ_ret, blockQ_normal, blockQ_ret, blockQ_exit_same, blockQ_exit_ne]))
      refine satRead_loop (l := a :: l) (from_ := 0) (most := 9223372036854775807) (by simpa using hl) (by omega) ((satPos (a :: l)).1, (satPos (a :: l)).2) (fun env e0 e4 e6 e7 => ?_) _ 0 0 (by simp) (by simp) (by simp) (by simp) (by simp) (by omega) (by simp) (by omega) (by simp [satPos]) (by simp [satPos])
      by_cases hz : (satPos (a :: l)).2 = 0
      · have e : satRead (a :: l) = (0, 0) := by unfold satRead; rw [List.head?_cons, if_neg (by simp [ha])]; exact if_pos hz
        rw [e]
        repeat' (first
 | refine za ?_ | refine zb ?_ | refine zc ?_ | refine zd ?_ | refine ze ?_ | refine zf ?_ | refine zg ?_ | refine zh ?_ | (refine zi ?_; try refine RgD_plain rfl ?_) | refine w_drawn rfl ?_ | refine zj ?_ | refine zl ?_
 | ((first | apply zs | (apply zt; (focus rfl)) | (apply zu; (focus rfl)) | (apply zv; (focus rfl)) | apply zx | apply zy | apply zB | apply zC | apply zD | apply zE | apply zF); (focus ((conv => lhs; simp (disch := omega) [-env0_get, bound, List.getElem?_cons_zero, List.getElem?_cons_succ, odt, odf, oip, oin, obt, obf, ont, onf, wrapI, owu, ow8, ow32, otd, oe0, oe1, oe2, oe3, oe4, oe5, oe6, otn, ot1, ot2, ot4, e0, e4, e6, e7]); first | done | rfl)); first | apply zk | (apply zn; (focus rfl); try (focus (first | rfl | (simp [e0, e4, e6, e7]; done)))) | (apply zo; (focus rfl)) | apply gv_u | apply gv_tt | apply gv_ff | apply gv_ft | apply gv_tf | (apply gv_split <;> intro hc <;> try simp only [decide_eq_true_eq, decide_eq_false_iff_not, beq_iff_eq, beq_eq_false_iff_ne, bne_iff_ne, bne_eq_false_iff_eq, Bool.not_true, Bool.not_false, ne_eq] at hc))
 | (simp (disch := omega) only [thenQ_normal, thenQ_exit, thenQ_ret, blockQ_normal, blockQ_ret, blockQ_exit_same, blockQ_exit_ne]))
      · have e : satRead (a :: l) = (((satPos (a :: l)).1 : Int), (satPos (a :: l)).2) := by unfold satRead; rw [List.head?_cons, if_neg (by simp [ha])]; exact if_neg hz
        rw [e]
        repeat' (first
 | refine za ?_ | refine zb ?_ | refine zc ?_ | refine zd ?_ | refine ze ?_ | refine zf ?_ | refine zg ?_ | refine zh ?_ | (refine zi ?_; try refine RgD_plain rfl ?_) | refine w_drawn rfl ?_ | refine zj ?_ | refine zl ?_
 | ((first | apply zs | (apply zt; (focus rfl)) | (apply zu; (focus rfl)) | (apply zv; (focus rfl)) | apply zx | apply zy | apply zB | apply zC | apply zD | apply zE | apply zF); (focus ((conv => lhs; simp (disch := omega) [-env0_get, bound, List.getElem?_cons_zero, List.getElem?_cons_succ, odt, odf, oip, oin, obt, obf, ont, onf, wrapI, owu, ow8, ow32, otd, oe0, oe1, oe2, oe3, oe4, oe5, oe6, otn, ot1, ot2, ot4, e0, e4, e6, e7]); first | done | rfl)); first | apply zk | (apply zn; (focus rfl); try (focus (first | rfl | (simp [e0, e4, e6, e7]; done)))) | (apply zo; (focus rfl)) | apply gv_u | apply gv_tt | apply gv_ff | apply gv_ft | apply gv_tf | (apply gv_split <;> intro hc <;> try simp only [decide_eq_true_eq, decide_eq_false_iff_not, beq_iff_eq, beq_eq_false_iff_ne, bne_iff_ne, bne_eq_false_iff_eq, Bool.not_true, Bool.not_false, ne_eq] at hc))
 | (simp (disch := omega) only [thenQ_normal, thenQ_exit, thenQ_ret, blockQ_normal, blockQ_ret, blockQ_exit_same, blockQ_exit_ne]))
end Go.Proofs.Ytlgbeekhaoiggaa
end

section
namespace Go.Proofs.Ytlgbeekhaoiggaa
open Go.AM
variable {f : Nat} {h : Heap}
def nvs (l : List Nat) : List Value := l.map fun n => .int .i64 (n : Nat)
theorem nvs_get (l : List Nat) (i : Nat) : (nvs l)[i]? = (l[i]?).map fun n => .int .i64 (n : Nat) := by simp [nvs]
abbrev NRow (h : Heap) (v : Value) (l : List Nat) : Prop := Row h 3 1 v l.length (nvs l)
theorem NRow.get {v : Value} {l : List Nat} (r : NRow h v l) (hl : 0 < l.length) : ∃ b o c cs, v = .slice (some ⟨b, o, none⟩) l.length c ∧ b < h.size ∧ h.cellsAt b = some cs ∧ ∀ i n, l[i]? = some n → cs[o + i]? = some (.int .i64 (n : Nat)) := by
  obtain ⟨a, c, rfl⟩ := r.form
  obtain ⟨b, o, cs, rfl, hb, hcs, hg⟩ := r.cell hl
  refine ⟨b, o, c, cs, rfl, hb, hcs, fun i n hi => ?_⟩
  have hil := (List.getElem?_eq_some_iff.1 hi).1
  rw [grab_get (by simpa using hg) hil, nvs_get, hi]; rfl
theorem digit_runs {v : Value} {l : List Nat} (r : NRow h v l) (i : Nat) : Runs X ⟨f, []⟩ 189 [v, .int .i64 i] h (.int .i64 (l.getD i 0 : Nat)) h := by
  obtain ⟨a, c, rfl⟩ := r.form
  refine Runs_of rfl f189_is ?_
  simp only [f189r0, f189r1, f189r2, f189r3, f189b]
  by_cases hi : i < l.length
  · obtain ⟨b, o, c, cs, e, hb, hcs, hg⟩ := r.get (by omega)
    cases e
    have hx := hg i l[i] (by simp [hi])
    have hd : l.getD i 0 = l[i] := by simp [hi]
    rw [hd]
    repeat' (first
 | refine za ?_ | refine zb ?_ | refine zc ?_ | refine zd ?_ | refine ze ?_ | refine zf ?_ | refine zg ?_ | refine zh ?_ | (refine zi ?_; try refine RgD_plain rfl ?_) | refine w_drawn rfl ?_ | refine zj ?_ | refine zl ?_
 | ((first | apply zs | (apply zt; (focus rfl)) | (apply zu; (focus rfl)) | (apply zv; (focus rfl)) | apply zx | apply zy | apply zB | apply zC | apply zD | apply zE | apply zF); (focus ((conv => lhs; simp (disch := omega) [-env0_get, bound, List.getElem?_cons_zero, List.getElem?_cons_succ, odt, odf, oip, oin, obt, obf, ont, onf, wrapI, owu, ow8, ow32, otd, oe0, oe1, oe2, oe3, oe4, oe5, oe6, otn, ot1, ot2, ot4, hcs, hx]); first | done | rfl)); first | apply zk | (apply zn; (focus rfl); try (focus (first | rfl | (simp [hcs, hx]; done)))) | (apply zo; (focus rfl)) | apply gv_u | apply gv_tt | apply gv_ff | apply gv_ft | apply gv_tf | (apply gv_split <;> intro hc <;> try simp only [decide_eq_true_eq, decide_eq_false_iff_not, beq_iff_eq, beq_eq_false_iff_ne, bne_iff_ne, bne_eq_false_iff_eq, Bool.not_true, Bool.not_false, ne_eq] at hc))
 | (simp (disch := omega) only [thenQ_normal, thenQ_exit, thenQ_ret, blockQ_normal, blockQ_ret, blockQ_exit_same, blockQ_exit_ne]))
  · have hd : l.getD i 0 = 0 := by simp; rw [List.getElem?_eq_none (by omega)]; rfl
    rw [hd]
    repeat' (first
 | refine za ?_ | refine zb ?_ | refine zc ?_ | refine zd ?_ | refine ze ?_ | refine zf ?_ | refine zg ?_ | refine zh ?_ | (refine zi ?_; try refine RgD_plain rfl ?_) | refine w_drawn rfl ?_ | refine zj ?_ | refine zl ?_
 | ((first | apply zs | (apply zt; (focus rfl)) | (apply zu; (focus rfl)) | (apply zv; (focus rfl)) | apply zx | apply zy | apply zB | apply zC | apply zD | apply zE | apply zF); (focus ((conv => lhs; simp (disch := omega) [-env0_get, bound, List.getElem?_cons_zero, List.getElem?_cons_succ, odt, odf, oip, oin, obt, obf, ont, onf, wrapI, owu, ow8, ow32, otd, oe0, oe1, oe2, oe3, oe4, oe5, oe6, otn, ot1, ot2, ot4]); first | done | rfl)); first | apply zk | (apply zn; (focus rfl); try (focus (first | rfl | (simp; done)))) | (apply zo; (focus rfl)) | apply gv_u | apply gv_tt | apply gv_ff | apply gv_ft | apply gv_tf | (apply gv_split <;> intro hc <;> try simp only [decide_eq_true_eq, decide_eq_false_iff_not, beq_iff_eq, beq_eq_false_iff_ne, bne_iff_ne, bne_eq_false_iff_eq, Bool.not_true, Bool.not_false, ne_eq] at hc))
 | (simp (disch := omega) only [thenQ_normal, thenQ_exit, thenQ_ret, blockQ_normal, blockQ_ret, blockQ_exit_same, blockQ_exit_ne]))
def endsL (neg : Prop) [Decidable neg] : List Nat := (if neg then 8 else 7) :: [0, 8, 5, 7, 7, 4, 5, 8, 6, 3, 0, 2, 7, 3, 3, 2, 2, 9]
theorem ends_runs {s : Int} : Runs X ⟨f, []⟩ 175 [.int .i64 s] h (.slice (some ⟨h.size, 0, none⟩) 19 19) (h.push (.cells (nvs (endsL (s < 0))) 3)) := by
  refine Runs_of rfl f175_is ?_
  simp only [f175r0, f175r1, f175r2, f175r3, f175r4, f175b]
  repeat' (first
 | refine za ?_ | refine zb ?_ | refine zc ?_ | refine zd ?_ | refine ze ?_ | refine zf ?_ | refine zg ?_ | refine zh ?_ | (refine zi ?_; try refine RgD_plain rfl ?_) | refine w_drawn rfl ?_ | refine zj ?_ | refine zl ?_
 | ((first | apply zs | (apply zt; (focus rfl)) | (apply zu; (focus rfl)) | (apply zv; (focus rfl)) | apply zx | apply zy | apply zB | apply zC | apply zD | apply zE | apply zF); (focus ((conv => lhs; simp (disch := omega) [-env0_get, bound, List.getElem?_cons_zero, List.getElem?_cons_succ, odt, odf, oip, oin, obt, obf, ont, onf, wrapI, owu, ow8, ow32, otd, oe0, oe1, oe2, oe3, oe4, oe5, oe6, otn, ot1, ot2, ot4]); first | done | rfl)); first | apply zk | (apply zn; (focus rfl); try (focus (first | rfl | (simp; done)))) | (apply zo; (focus rfl)) | apply gv_u | apply gv_tt | apply gv_ff | apply gv_ft | apply gv_tf | (apply gv_split <;> intro hc <;> try simp only [decide_eq_true_eq, decide_eq_false_iff_not, beq_iff_eq, beq_eq_false_iff_ne, bne_iff_ne, bne_eq_false_iff_eq, Bool.not_true, Bool.not_false, ne_eq] at hc))
 | (simp (disch := omega) only [thenQ_normal, thenQ_exit, thenQ_ret, blockQ_normal, blockQ_ret, blockQ_exit_same, blockQ_exit_ne]))
  all_goals
    refine w_ends (vs := [.slice (some ⟨h.size, 0, none⟩) 19 19]) (by simp) ?_
    rw [tup_one, finish_own (Nat.le_refl _) (l := nvs (endsL (s < 0))) (e := 3) (by simp [endsL, nvs, *]) (by simp [nvs]; intros; rfl)]
def moreN (a b : List Nat) : Nat → Bool
  | 0 => false
  | i + 1 => if a.getD i 0 = b.getD i 0 then moreN a b i else decide (a.getD i 0 > b.getD i 0)
theorem more_runs {va vb : Value} {a b : List Nat} (ra : NRow h va a) (rb : NRow h vb b) (hl : a.length + b.length ≤ 1000000) : Runs X ⟨f, []⟩ 174 [va, vb] h (.bool (moreN a b (a.length + b.length + 1))) h := by
  obtain ⟨aa, ca, rfl⟩ := ra.form
  obtain ⟨ab, cb, rfl⟩ := rb.form
  refine Runs_of rfl f174_is ?_
  simp only [f174r0, f174r1, f174r2, f174r3, f174r4, f174r5, f174l6, f174r7, f174b]
  repeat' (first
 | refine za ?_ | refine zb ?_ | refine zc ?_ | refine zd ?_ | refine ze ?_ | refine zf ?_ | refine zg ?_ | refine zh ?_ | (refine zi ?_; try refine RgD_plain rfl ?_) | refine w_drawn rfl ?_ | refine zj ?_ | refine zl ?_
 | ((first | apply zs | (apply zt; (focus rfl)) | (apply zu; (focus rfl)) | (apply zv; (focus rfl)) | apply zx | apply zy | apply zB | apply zC | apply zD | apply zE | apply zF); (focus ((conv => lhs; simp (disch := omega) [-env0_get, bound, List.getElem?_cons_zero, List.getElem?_cons_succ, odt, odf, oip, oin, obt, obf, ont, onf, wrapI, owu, ow8, ow32, otd, oe0, oe1, oe2, oe3, oe4, oe5, oe6, otn, ot1, ot2, ot4]); first | done | rfl)); first | apply zk | (apply zn; (focus rfl); try (focus (first | rfl | (simp; done)))) | (apply zo; (focus rfl)) | apply gv_u | apply gv_tt | apply gv_ff | apply gv_ft | apply gv_tf | (apply gv_split <;> intro hc <;> try simp only [decide_eq_true_eq, decide_eq_false_iff_not, beq_iff_eq, beq_eq_false_iff_ne, bne_iff_ne, bne_eq_false_iff_eq, Bool.not_true, Bool.not_false, ne_eq] at hc))
 | (simp (disch := omega) only [thenQ_normal, thenQ_exit, thenQ_ret, blockQ_normal, blockQ_ret, blockQ_exit_same, blockQ_exit_ne]))
  refine w_loop (A := Nat) (fun i env h' => h' = h ∧ env 0 = .slice aa a.length ca ∧ env 1 = .slice ab b.length cb ∧ env 5 = .int .i64 ((i : Int) - 1) ∧ i ≤ a.length + b.length + 1 ∧ moreN a b i = moreN a b (a.length + b.length + 1)) (fun i => i) (a0 := a.length + b.length + 1) ⟨rfl, by simp, by simp, by simp, by omega, rfl⟩ ?_
  rintro i env h' ⟨rfl, e0, e1, e5, hi, hm⟩
  cases i with
  | zero =>
    have e5' : env 5 = .int .i64 (-1) := by rw [e5]; rfl
    rw [← hm, moreN]
    repeat' (first
 | refine za ?_ | refine zb ?_ | refine zc ?_ | refine zd ?_ | refine ze ?_ | refine zf ?_ | refine zg ?_ | refine zh ?_ | (refine zi ?_; try refine RgD_plain rfl ?_) | refine w_drawn rfl ?_ | refine zj ?_ | refine zl ?_
 | ((first | apply zs | (apply zt; (focus rfl)) | (apply zu; (focus rfl)) | (apply zv; (focus rfl)) | apply zx | apply zy | apply zB | apply zC | apply zD | apply zE | apply zF); (focus ((conv => lhs; simp (disch := omega) [-env0_get, bound, List.getElem?_cons_zero, List.getElem?_cons_succ, odt, odf, oip, oin, obt, obf, ont, onf, wrapI, owu, ow8, ow32, otd, oe0, oe1, oe2, oe3, oe4, oe5, oe6, otn, ot1, ot2, ot4, e0, e1, e5']); first | done | rfl)); first | apply zk | (apply zn; (focus rfl); try (focus (first | rfl | (simp [e0, e1, e5']; done)))) | (apply zo; (focus rfl)) | apply gv_u | apply gv_tt | apply gv_ff | apply gv_ft | apply gv_tf | (apply gv_split <;> intro hc <;> try simp only [decide_eq_true_eq, decide_eq_false_iff_not, beq_iff_eq, beq_eq_false_iff_ne, bne_iff_ne, bne_eq_false_iff_eq, Bool.not_true, Bool.not_false, ne_eq] at hc))
 | (simp (disch := omega) only [thenQ_normal, thenQ_exit, thenQ_ret, blockQ_normal, blockQ_ret, blockQ_exit_same, blockQ_exit_ne]))
  | succ i =>
    have e5' : env 5 = .int .i64 (i : Nat) := by rw [e5]; simp
    rw [moreN] at hm
    by_cases heq : a.getD i 0 = b.getD i 0
    · rw [if_pos heq] at hm
      have h2 : ((a.getD i 0 : Nat) : Int) = (b.getD i 0 : Nat) := by rw [heq]
      simp only [List.getD_eq_getElem?_getD] at h2
      repeat' (first
 | refine za ?_ | refine zb ?_ | refine zc ?_ | refine zd ?_ | refine ze ?_ | refine zf ?_ | refine zg ?_ | refine zh ?_ | (refine zi ?_; try refine RgD_plain rfl ?_) | refine w_drawn rfl ?_ | refine zj ?_ | refine zl ?_
 | ((first | apply zs | (apply zt; (focus rfl)) | (apply zu; (focus rfl)) | (apply zv; (focus rfl)) | apply zw | apply zx | apply zy | apply zB | apply zC | apply zD | apply zE | apply zF); (focus ((conv => lhs; simp (disch := omega) [-env0_get, bound, List.getElem?_cons_zero, List.getElem?_cons_succ, odt, odf, oip, oin, obt, obf, ont, onf, wrapI, owu, ow8, ow32, otd, oe0, oe1, oe2, oe3, oe4, oe5, oe6, otn, ot1, ot2, ot4, e0, e1, e5']); first | done | rfl)); first | apply zk | (apply zn; (focus rfl); try (focus (first | rfl | (simp [e0, e1, e5']; done)))) | (apply zo; (focus rfl)) | apply gv_u | apply gv_tt | apply gv_ff | apply gv_ft | apply gv_tf | (apply gv_split <;> intro hc <;> try simp only [decide_eq_true_eq, decide_eq_false_iff_not, beq_iff_eq, beq_eq_false_iff_ne, bne_iff_ne, bne_eq_false_iff_eq, Bool.not_true, Bool.not_false, ne_eq] at hc) | exact (digit_runs ra i) | exact (digit_runs rb i))
 | (simp (disch := omega) only [thenQ_normal, thenQ_exit, thenQ_ret, blockQ_normal, blockQ_ret, blockQ_exit_same, blockQ_exit_ne]))
      exact ⟨i, ⟨by trivial, by simp [e0], by simp [e1], by simp, by omega, hm⟩, by omega⟩
    · rw [if_neg heq] at hm
      have h2 : ¬ ((a.getD i 0 : Nat) : Int) = (b.getD i 0 : Nat) := by omega
      rw [← hm]
      simp only [List.getD_eq_getElem?_getD] at h2
      repeat' (first
 | refine za ?_ | refine zb ?_ | refine zc ?_ | refine zd ?_ | refine ze ?_ | refine zf ?_ | refine zg ?_ | refine zh ?_ | (refine zi ?_; try refine RgD_plain rfl ?_) | refine w_drawn rfl ?_ | refine zj ?_ | refine zl ?_
 | ((first | apply zs | (apply zt; (focus rfl)) | (apply zu; (focus rfl)) | (apply zv; (focus rfl)) | apply zw | apply zx | apply zy | apply zB | apply zC | apply zD | apply zE | apply zF); (focus ((conv => lhs; simp (disch := omega) [-env0_get, bound, List.getElem?_cons_zero, List.getElem?_cons_succ, odt, odf, oip, oin, obt, obf, ont, onf, wrapI, owu, ow8, ow32, otd, oe0, oe1, oe2, oe3, oe4, oe5, oe6, otn, ot1, ot2, ot4, e0, e1, e5']); first | done | rfl)); first | apply zk | (apply zn; (focus rfl); try (focus (first | rfl | (simp [e0, e1, e5']; done)))) | (apply zo; (focus rfl)) | apply gv_u | apply gv_tt | apply gv_ff | apply gv_ft | apply gv_tf | (apply gv_split <;> intro hc <;> try simp only [decide_eq_true_eq, decide_eq_false_iff_not, beq_iff_eq, beq_eq_false_iff_ne, bne_iff_ne, bne_eq_false_iff_eq, Bool.not_true, Bool.not_false, ne_eq] at hc) | exact (digit_runs ra i) | exact (digit_runs rb i))
 | (simp (disch := omega) only [thenQ_normal, thenQ_exit, thenQ_ret, blockQ_normal, blockQ_ret, blockQ_exit_same, blockQ_exit_ne]))
end Go.Proofs.Ytlgbeekhaoiggaa
end

section
namespace Go.Proofs.Ytlgbeekhaoiggaa
open Go.AM
def dval (b : UInt8) : Nat := b.toNat - 48
def isDig (b : UInt8) : Prop := 48 ≤ b.toNat ∧ b.toNat ≤ 57
instance {b : UInt8} : Decidable (isDig b) := by unfold isDig; infer_instance
def numV : List Nat → Nat
  | [] => 0
  | d :: ds => d + 10 * numV ds
def hn (n : Nat) (l : List UInt8) : Nat := l.foldl (fun n b => 10 * n + dval b) n
theorem hn_nil (n : Nat) : hn n [] = n := by simp only [hn, List.foldl_nil]
theorem hn_cons (n : Nat) (b : UInt8) (l : List UInt8) : hn n (b :: l) = hn (10 * n + dval b) l := by simp only [hn, List.foldl_cons]
theorem numV_app : ∀ (l : List Nat) (d : Nat), numV (l ++ [d]) = numV l + 10 ^ l.length * d
  | [], d => by simp [numV]
  | x :: l, d => by
    have := numV_app l d
    simp only [List.cons_append, numV, this, List.length_cons, Nat.pow_succ]
    rw [Nat.mul_add, Nat.mul_comm (10 ^ l.length) 10, Nat.mul_assoc]; omega
theorem hn_app (l m : List UInt8) (n : Nat) : hn n (l ++ m) = hn (hn n l) m := by
  induction l generalizing n with
  | nil => simp only [List.nil_append, hn_nil, hn_cons]
  | cons b l ih => simp only [List.cons_append, hn_nil, hn_cons, ih]
theorem hn_numV (l : List UInt8) : hn 0 l = numV ((l.map dval).reverse) := by
  have key : ∀ (l : List UInt8) (n : Nat), hn n l = numV ((l.map dval).reverse) + 10 ^ l.length * n := by
    intro l
    induction l with
    | nil => intro n; simp [hn_nil, hn_cons, numV]
    | cons b l ih =>
      intro n
      simp only [hn_nil, hn_cons, ih, List.map_cons, List.reverse_cons, numV_app, List.length_reverse, List.length_map, List.length_cons, Nat.pow_succ]
      rw [Nat.mul_add, Nat.mul_assoc]; omega
  simpa using key l 0
theorem hn_ge (l : List UInt8) (n : Nat) : n ≤ hn n l := by
  induction l generalizing n with
  | nil => simp only [hn_nil, hn_cons]; omega
  | cons b l ih => have := ih (10 * n + dval b); simp only [hn_nil, hn_cons]; omega
theorem numV_lt : ∀ (l : List Nat), (∀ d ∈ l, d ≤ 9) → numV l < 10 ^ l.length
  | [], _ => by simp [numV]
  | d :: l, h => by
    have := numV_lt l (fun x hx => h x (by simp [hx]))
    have hd := h d (by simp)
    simp only [numV, List.length_cons, Nat.pow_succ]; omega
theorem numV_take_succ (a : List Nat) (k : Nat) : numV (a.take (k + 1)) = numV (a.take k) + 10 ^ k * a.getD k 0 := by
  by_cases hk : k < a.length
  · rw [List.take_add_one, List.getElem?_eq_getElem hk]
    simp only [Option.toList_some, numV_app, List.length_take, Nat.min_eq_left (Nat.le_of_lt hk)]
    simp [hk]
  · rw [List.take_of_length_le (by omega), List.take_of_length_le (by omega)]
    simp [List.getElem?_eq_none (by omega : a.length ≤ k)]
theorem numV_take_lt {a : List Nat} (ha : ∀ d ∈ a, d ≤ 9) (k : Nat) : numV (a.take k) < 10 ^ k := by
  have h1 := numV_lt (a.take k) (fun d hd => ha d (List.mem_of_mem_take hd))
  have h2 : 10 ^ (a.take k).length ≤ 10 ^ k := Nat.pow_le_pow_right (by omega) (by simp; omega)
  omega
theorem moreN_take {a b : List Nat} (ha : ∀ d ∈ a, d ≤ 9) (hb : ∀ d ∈ b, d ≤ 9) : ∀ k, moreN a b k = decide (numV (b.take k) < numV (a.take k))
  | 0 => by simp [moreN, numV]
  | k + 1 => by
    have h1 := numV_take_lt ha k
    have h2 := numV_take_lt hb k
    rw [moreN, numV_take_succ, numV_take_succ, moreN_take ha hb k]
    split
    · rename_i h; rw [h]; congr 1; simp only [eq_iff_iff]; omega
    · rename_i h
      congr 1
      simp only [eq_iff_iff]
      constructor
      · intro hg
        have : 10 ^ k * (b.getD k 0 + 1) ≤ 10 ^ k * a.getD k 0 := Nat.mul_le_mul_left _ hg
        rw [Nat.mul_add] at this; omega
      · intro hg
        apply Classical.byContradiction; intro hn
        have : 10 ^ k * (a.getD k 0 + 1) ≤ 10 ^ k * b.getD k 0 := Nat.mul_le_mul_left _ (by omega)
        rw [Nat.mul_add] at this; omega
theorem moreN_eq {a b : List Nat} (ha : ∀ d ∈ a, d ≤ 9) (hb : ∀ d ∈ b, d ≤ 9) : moreN a b (a.length + b.length + 1) = decide (numV b < numV a) := by
  rw [moreN_take ha hb, List.take_of_length_le (by omega), List.take_of_length_le (by omega)]
def most (neg : Prop) [Decidable neg] : Nat := if neg then 9223372036854775808 else 9223372036854775807
theorem numV_ends (neg : Prop) [Decidable neg] : numV (endsL neg) = most neg := by unfold endsL most; split <;> rfl
theorem ends_le (neg : Prop) [Decidable neg] : ∀ d ∈ endsL neg, d ≤ 9 := by
  unfold endsL; split <;> (intro d hd; simp at hd; omega)
def digOk (neg : Prop) [Decidable neg] (l : List UInt8) : Prop := (∀ b ∈ l, isDig b) ∧ l ≠ [] ∧ ¬(l.head? = some 48 ∧ (l.length > 1 ∨ neg)) ∧ hn 0 l ≤ most neg
instance {neg : Prop} [Decidable neg] {l : List UInt8} : Decidable (digOk neg l) := by unfold digOk; infer_instance
def parseN (l : List UInt8) : Option Int :=
  if l.head? = some 45 then (if digOk True l.tail then some (-(hn 0 l.tail : Int)) else none) else if digOk False l then some (hn 0 l : Int) else none
def longest {α : Type} (p : List UInt8 → Option α) (l : List UInt8) : Nat → Option (α × Nat)
  | 0 => none
  | n + 1 => match p (l.take (n + 1)) with
    | some x => some (x, n + 1)
    | none => longest p l n
def digV (mst : Nat) : Bool → Nat → List UInt8 → Nat → Prop
  | _, _, _, 0 => True
  | _, _, [], _ + 1 => False
  | st, n, b :: l, m + 1 => digC mst (st = true) n b ∧ digV mst true (10 * n + dval b) l m
theorem digs_V {mst : Nat} (l : List UInt8) (st : Bool) (n m : Nat) : digV mst st n l m ↔ m ≤ (digs mst st n l).2 := by
  induction l generalizing st n m with
  | nil => cases m <;> simp [digV, digs]
  | cons b l ih =>
    cases m with
    | zero => simp [digV]
    | succ m =>
      have := ih true (10 * n + dval b) m
      rw [digV, digs]
      unfold dval at this ⊢
      split
      · rename_i hc; simp only [hc, true_and, this]; omega
      · rename_i hc; simp [hc]
theorem digs_val {mst : Nat} (l : List UInt8) (st : Bool) (n : Nat) : (digs mst st n l).1 = hn n (l.take (digs mst st n l).2) := by
  induction l generalizing st n with
  | nil => simp [digs, hn_nil, hn_cons]
  | cons b l ih =>
    have := ih true (10 * n + dval b)
    rw [digs]
    unfold dval at this
    split
    · simp only [List.take_succ_cons, hn_nil, hn_cons, dval]; exact this
    · simp [hn_nil, hn_cons]
theorem digV_pos {mst : Nat} (h9 : 9 ≤ mst) (m : Nat) (l : List UInt8) (n : Nat) (h1 : 1 ≤ n) (h2 : n ≤ mst) : digV mst true n l m ↔ m ≤ l.length ∧ (∀ b ∈ l.take m, isDig b) ∧ hn n (l.take m) ≤ mst := by
  induction l generalizing n m with
  | nil => cases m <;> simp [digV, hn_nil, hn_cons, h2]
  | cons b l ih =>
    rcases m with _ | m
    · simp [digV, hn_nil, hn_cons, h2]
    rw [digV, List.take_succ_cons]
    simp only [List.length_cons, List.mem_cons, forall_eq_or_imp, hn_nil, hn_cons]
    constructor
    · rintro ⟨⟨c1, c2, c3, c4⟩, hv⟩
      have hb : 10 * n + dval b ≤ mst := by unfold dval; omega
      obtain ⟨q1, q2, q3⟩ := (ih m (10 * n + dval b) (by omega) hb).1 hv
      exact ⟨by omega, ⟨⟨c1, c2⟩, q2⟩, q3⟩
    · rintro ⟨q1, ⟨⟨c1, c2⟩, q2⟩, q3⟩
      have hge := hn_ge (l.take m) (10 * n + dval b)
      have hb : 10 * n + dval b ≤ mst := by omega
      refine ⟨⟨c1, c2, fun _ => by omega, by unfold dval at hb; omega⟩, (ih m (10 * n + dval b) (by omega) hb).2 ⟨by omega, q2, q3⟩⟩
theorem digV_ok {neg : Prop} [Decidable neg] (l : List UInt8) (m : Nat) : (m ≤ l.length ∧ digOk neg (l.take m)) ↔ 1 ≤ m ∧ digV (most neg) false 0 l m ∧ ¬(neg ∧ hn 0 (l.take m) = 0) := by
  have h9 : 9 ≤ most neg := by unfold most; split <;> omega
  rcases m with _ | m
  · simp [digOk]
  rcases l with _ | ⟨b, l⟩
  · simp [digV]
  have hb0 : (b = 48) ↔ b.toNat = 48 := by rw [← UInt8.toNat_inj]; rfl
  rw [digV, List.take_succ_cons]
  simp only [digOk, List.length_cons, List.mem_cons, forall_eq_or_imp, hn_cons, List.head?_cons, Option.some.injEq, ne_eq, reduceCtorEq, not_false_eq_true, true_and, List.length_take, hb0, Nat.mul_zero, Nat.zero_add]
  by_cases hd : isDig b
  · obtain ⟨d1, d2⟩ := hd
    by_cases h0 : b.toNat = 48
    · have hv0 : dval b = 0 := by unfold dval; omega
      rw [hv0]
      rcases m with _ | m
      · simp only [List.take_zero, List.not_mem_nil, false_implies, implies_true, and_true, hn_nil, hn_cons, digV, digC, isDig, h0]
        simp
      · constructor
        · rintro ⟨q1, _, q2, _⟩
          exfalso; refine q2 ⟨h0, .inl ?_⟩; omega
        · rintro ⟨_, ⟨_, hv⟩, _⟩
          cases l with
          | nil => exact hv.elim
          | cons c l => exact absurd rfl (hv.1.2.2.1 rfl)
    · have hv1 : 1 ≤ dval b := by unfold dval; omega
      have hle : dval b ≤ most neg := by unfold dval; omega
      rw [digV_pos h9 m l (dval b) hv1 hle]
      have hge := hn_ge (l.take m) (dval b)
      constructor
      · rintro ⟨q1, ⟨_, q2⟩, _, q3⟩
        exact ⟨by omega, ⟨⟨d1, d2, fun e => by simp at e, Nat.zero_le _⟩, by omega, q2, q3⟩, fun e => by omega⟩
      · rintro ⟨_, ⟨_, q1, q2, q3⟩, _⟩
        exact ⟨by omega, ⟨⟨d1, d2⟩, q2⟩, fun e => h0 e.1, q3⟩
  · constructor
    · rintro ⟨_, ⟨q, _⟩, _⟩; exact absurd q hd
    · rintro ⟨_, ⟨⟨q1, q2, _⟩, _⟩, _⟩; exact absurd ⟨q1, q2⟩ hd
theorem longest_eq {α : Type} {p : List UInt8 → Option α} {l : List UInt8} {k : Nat} {x : α} : ∀ {n : Nat}, 1 ≤ k → k ≤ n → p (l.take k) = some x → (∀ m, k < m → m ≤ n → p (l.take m) = none) → longest p l n = some (x, k)
  | 0, h1, h2, _, _ => by omega
  | n + 1, h1, h2, hp, hm => by
    rw [longest]
    by_cases hk : k = n + 1
    · subst hk; rw [hp]
    · rw [hm (n + 1) (by omega) (by omega)]
      exact longest_eq h1 (by omega) hp (fun m a b => hm m a (by omega))
theorem longest_none {α : Type} {p : List UInt8 → Option α} {l : List UInt8} : ∀ {n : Nat}, (∀ m, 1 ≤ m → m ≤ n → p (l.take m) = none) → longest p l n = none
  | 0, _ => rfl
  | n + 1, hm => by rw [longest, hm (n + 1) (by omega) (by omega)]; exact longest_none (fun m a b => hm m a (by omega))
theorem hn_pow (l : List UInt8) (n : Nat) : 10 ^ l.length * n ≤ hn n l := by
  induction l generalizing n with
  | nil => simp [hn_nil]
  | cons b l ih =>
    have := ih (10 * n + dval b)
    rw [hn_cons, List.length_cons, Nat.pow_succ]
    rw [Nat.mul_add, ← Nat.mul_assoc] at this
    rw [Nat.mul_assoc] at this ⊢
    omega
theorem hn_take (l : List UInt8) {j k : Nat} (hj : j ≤ k) : hn 0 (l.take j) ≤ hn 0 (l.take k) := by
  have : l.take k = l.take j ++ (l.take k).drop j := by
    conv => lhs; rw [← List.take_append_drop j (l.take k)]
    rw [List.take_take, Nat.min_eq_left hj]
  rw [this, hn_app]; exact hn_ge _ _
theorem digOk_len {neg : Prop} [Decidable neg] {l : List UInt8} (h : digOk neg l) : l.length ≤ 19 := by
  obtain ⟨h1, h2, h3, h4⟩ := h
  have hm : most neg ≤ 9223372036854775808 := by unfold most; split <;> omega
  rcases l with _ | ⟨b, l⟩
  · simp
  · have hb := h1 b (by simp)
    by_cases hb0 : b = 48
    · have : l.length = 0 := by
        apply Classical.byContradiction; intro q
        exact h3 ⟨by simp [hb0], .inl (by simp; omega)⟩
      simp; omega
    · have hb1 : ¬ b.toNat = 48 := fun e => hb0 (UInt8.toNat_inj.1 (by rw [e]; rfl))
      have hd : 1 ≤ dval b := by have := hb.1; unfold dval; omega
      rw [hn_cons] at h4
      have hp := hn_pow l (10 * 0 + dval b)
      have hp2 : 10 ^ l.length * 1 ≤ 10 ^ l.length * (10 * 0 + dval b) := Nat.mul_le_mul_left _ (by omega)
      apply Classical.byContradiction; intro q
      have : 10 ^ 19 ≤ 10 ^ l.length := Nat.pow_le_pow_right (by omega) (by simp at q; omega)
      have e : (10 : Nat) ^ 19 = 10000000000000000000 := by decide
      omega
theorem satRead_longest (l : List UInt8) : longest parseN l (min 20 l.length) = if (satRead l).2 = 0 then none else some (satRead l) := by
  have key : ∀ (neg : Prop) [Decidable neg] (t : List UInt8), (∀ m, 1 ≤ m → m ≤ t.length → (digOk neg (t.take m) ↔ m ≤ (digs (most neg) false 0 t).2 ∧ ¬(neg ∧ hn 0 (t.take m) = 0))) := by
    intro neg _ t m h1 hm
    have := digV_ok (neg := neg) t m
    rw [digs_V] at this
    constructor
    · intro h; exact (this.1 ⟨hm, h⟩).2
    · intro h; exact (this.2 ⟨h1, h⟩).2
  by_cases hh : l.head? = some 45
  · obtain ⟨t, rfl⟩ : ∃ t, l = 45 :: t := by cases l with | nil => simp at hh | cons a t => simp at hh; subst hh; exact ⟨t, rfl⟩
    have hK : (satNeg t).2 ≤ t.length := digs_len
    have hv := digs_val (mst := 9223372036854775808) t false 0
    have k0 := key True t
    have hmst : most True = 9223372036854775808 := by simp [most]
    rw [hmst] at k0
    have hp : ∀ m, 1 ≤ m → parseN ((45 :: t).take m) = if digOk True (t.take (m - 1)) then some (-(hn 0 (t.take (m - 1)) : Int)) else none := fun m hm => by
      obtain ⟨m, rfl⟩ : ∃ q, m = q + 1 := ⟨m - 1, by omega⟩
      unfold parseN; rw [List.take_succ_cons, List.head?_cons, if_pos rfl]; rfl
    have hs : satRead (45 :: t) = negR (satNeg t) := by unfold satRead; rw [List.head?_cons, if_pos rfl]; rfl
    rw [hs]
    have h00 : ¬ digOk True (t.take 0) := by simp [digOk]
    by_cases hz : (satNeg t).2 = 0 ∨ (satNeg t).1 = 0
    · rw [show negR (satNeg t) = (0, 0) from if_pos hz, if_pos rfl]
      refine longest_none (fun m h1 h2 => ?_)
      rw [hp m h1, if_neg]
      intro q
      by_cases hm1 : m - 1 = 0
      · rw [hm1] at q; exact h00 q
      · obtain ⟨q1, q2⟩ := (k0 (m - 1) (by omega) (by simp at h2; omega)).1 q
        rcases hz with hz | hz
        · unfold satNeg at hz; omega
        · unfold satNeg at hz
          rw [hv] at hz
          have := hn_take t q1
          exact q2 ⟨trivial, by omega⟩
    · rw [show negR (satNeg t) = (-((satNeg t).1 : Int), (satNeg t).2 + 1) from if_neg hz, if_neg (by simp)]
      have hok : digOk True (t.take (satNeg t).2) := (k0 (satNeg t).2 (by omega) hK).2 ⟨Nat.le_refl _, fun q => hz (.inr (by unfold satNeg at q ⊢; rw [hv]; exact q.2))⟩
      have hl := digOk_len hok
      rw [List.length_take, Nat.min_eq_left hK] at hl
      refine longest_eq (by omega) (by simp; omega) ?_ (fun m h1 h2 => ?_)
      · rw [hp _ (by omega), Nat.add_sub_cancel, if_pos hok]
        unfold satNeg; rw [hv]
      · rw [hp m (by omega), if_neg]
        intro q
        have := ((k0 (m - 1) (by omega) (by simp at h2; omega)).1 q).1
        unfold satNeg at h1; omega
  · have hK : (satPos l).2 ≤ l.length := digs_len
    have hv := digs_val (mst := 9223372036854775807) l false 0
    have k0 := key False l
    have hmst : most False = 9223372036854775807 := by simp [most]
    rw [hmst] at k0
    have hp : ∀ m, 1 ≤ m → parseN (l.take m) = if digOk False (l.take m) then some (hn 0 (l.take m) : Int) else none := fun m hm => by
      have : (l.take m).head? = l.head? := by
        obtain ⟨m, rfl⟩ : ∃ q, m = q + 1 := ⟨m - 1, by omega⟩
        cases l <;> simp
      unfold parseN; rw [if_neg (by rw [this]; exact hh)]
    have hs : satRead l = posR (satPos l) := by unfold satRead; rw [if_neg hh]
    rw [hs]
    by_cases hz : (satPos l).2 = 0
    · rw [show posR (satPos l) = (0, 0) from if_pos hz, if_pos rfl]
      refine longest_none (fun m h1 h2 => ?_)
      rw [hp m h1, if_neg]
      intro q
      have := ((k0 m h1 (by omega)).1 q).1
      unfold satPos at hz; omega
    · rw [show posR (satPos l) = (((satPos l).1 : Int), (satPos l).2) from if_neg hz, if_neg hz]
      have hok : digOk False (l.take (satPos l).2) := (k0 (satPos l).2 (by omega) hK).2 ⟨Nat.le_refl _, by simp⟩
      have hl := digOk_len hok
      rw [List.length_take, Nat.min_eq_left hK] at hl
      refine longest_eq (by omega) (by omega) ?_ (fun m h1 h2 => ?_)
      · rw [hp _ (by omega), if_pos hok]
        unfold satPos; rw [hv]
      · rw [hp m (by omega), if_neg]
        intro q
        have := ((k0 m (by omega) (by omega)).1 q).1
        unfold satPos at h1; omega
theorem satRead_zero {l : List UInt8} (h : (satRead l).2 = 0) : satRead l = (0, 0) := by
  unfold satRead at h ⊢
  split
  · rename_i hh; rw [if_pos hh] at h; unfold negR at h ⊢; split
    · rfl
    · rename_i hz; rw [if_neg hz] at h; simp at h
  · rename_i hh; rw [if_neg hh] at h; unfold posR at h ⊢; split
    · rfl
    · rename_i hz; rw [if_neg hz] at h; exact absurd h hz
end Go.Proofs.Ytlgbeekhaoiggaa
end

section
namespace Go.Proofs.Ytlgbeekhaoiggaa
open Go.AM
set_option maxHeartbeats 4000000
variable {f : Nat} {h : Heap}
theorem NRow.new {l : List Nat} {n b : Nat} (hb : b = h.size) (hn : n = l.length) : NRow (h.push (.cells (nvs l) 3)) (.slice (some ⟨b, 0, none⟩) n n) l := by
  subst hn hb
  exact Buf.row (f := 0) (.inr ⟨h.size, _, rfl, by simp [nvs], by simp, Nat.zero_le _⟩) (by omega) (by simp [nvs])
theorem endsL_len (neg : Prop) [Decidable neg] : (endsL neg).length = 19 := by simp [endsL]
def isN (s : Int) (l : List Nat) : Bool := !moreN l (endsL (s < 0)) (l.length + (endsL (s < 0)).length + 1)
theorem is_runs {s : Int} {v : Value} {l : List Nat} (r : NRow h v l) (hl : l.length ≤ 900000) : Runs X ⟨f, []⟩ 144 [.agg #[.int .i64 s, v]] h (.bool (isN s l)) h := by
  have he := endsL_len (s < 0)
  refine Runs_of rfl f144_is ?_
  simp only [f144r0, f144r1, f144b]
  obtain ⟨a, c, rfl⟩ := r.form
  repeat' (first
 | refine za ?_ | refine zb ?_ | refine zc ?_ | refine zd ?_ | refine ze ?_ | refine zf ?_ | refine zg ?_ | refine zh ?_ | (refine zi ?_; try refine RgD_plain rfl ?_) | refine w_drawn rfl ?_ | refine zj ?_ | refine zl ?_
 | ((first | apply zs | (apply zt; (focus rfl)) | (apply zu; (focus rfl)) | (apply zv; (focus rfl)) | apply zw | apply zx | apply zy | apply zB | apply zC | apply zD | apply zE | apply zF); (focus ((conv => lhs; simp (disch := omega) [-env0_get, bound, List.getElem?_cons_zero, List.getElem?_cons_succ, odt, odf, oip, oin, obt, obf, ont, onf, wrapI, owu, ow8, ow32, otd, oe0, oe1, oe2, oe3, oe4, oe5, oe6, otn, ot1, ot2, ot4, Value.cells, isN]); first | done | rfl)); first | apply zk | (apply zn; (focus rfl); try (focus (first | rfl | (simp [Value.cells, isN]; done)))) | (apply zo; (focus rfl)) | apply gv_u | apply gv_tt | apply gv_ff | apply gv_ft | apply gv_tf | (apply gv_split <;> intro hc <;> try simp only [decide_eq_true_eq, decide_eq_false_iff_not, beq_iff_eq, beq_eq_false_iff_ne, bne_iff_ne, bne_eq_false_iff_eq, Bool.not_true, Bool.not_false, ne_eq] at hc) | exact ends_runs | exact (more_runs ((r.push _).push _) (NRow.new (by simp) (by rw [he])) (by omega)))
 | (simp (disch := omega) only [thenQ_normal, thenQ_exit, thenQ_ret, blockQ_normal, blockQ_ret, blockQ_exit_same, blockQ_exit_ne]))
theorem numV_drop_le (l : List Nat) (i : Nat) : numV (l.drop i) ≤ numV l := by
  induction i generalizing l with
  | zero => simp
  | succ i ih => cases l with
    | nil => simp
    | cons d l => have := ih l; simp only [List.drop_succ_cons, numV]; omega
theorem end_loop {h : Heap} {s : Int} {v : Value} {l : List Nat} {p : Nat} {Q : AExit → Env → Heap → Prop} (r : NRow h v l) (hs : -1 ≤ s ∧ s ≤ 1) (hl : l.length ≤ 900000) (hm : numV l ≤ 9223372036854775808) (hm2 : 0 ≤ s → numV l ≤ 9223372036854775807) (hd : ∀ d ∈ l, d ≤ 9)
    (hp : h.cellsAt p = some [.int .i64 s, v]) (K : ∀ env, env 4 = .int .i64 (s * numV l) → Q (.exit 0) env h) :
    ∀ env, env 1 = .pointer (some ⟨p, 0, none⟩) → env 3 = v → env 4 = .int .i64 0 → env 5 = .int .i64 ((l.length : Int) - 1) → Ok X ⟨f, []⟩ (.loop f145l9) env h Q := by
  intro env e1 e3 e4 e5
  refine w_loop (A := Nat) (fun i env h' => h' = h ∧ env 1 = .pointer (some ⟨p, 0, none⟩) ∧ env 3 = v ∧ env 4 = .int .i64 (s * numV (l.drop i)) ∧ env 5 = .int .i64 ((i : Int) - 1) ∧ i ≤ l.length) (fun i => i) (a0 := l.length) ⟨rfl, e1, e3, by rw [e4]; simp [numV], e5, by omega⟩ ?_
  clear e1 e3 e4 e5
  rintro i env h' ⟨rfl, e1, e3, e4, e5, hi⟩
  simp only [f145l9, f145r6, f145r7, f145r8]
  cases i with
  | zero =>
    have e5' : env 5 = .int .i64 (-1) := by rw [e5]; rfl
    repeat' (first
 | refine za ?_ | refine zb ?_ | refine zc ?_ | refine zd ?_ | refine ze ?_ | refine zf ?_ | refine zg ?_ | refine zh ?_ | (refine zi ?_; try refine RgD_plain rfl ?_) | refine w_drawn rfl ?_ | refine zj ?_ | refine zl ?_
 | ((first | apply zs | (apply zt; (focus rfl)) | (apply zu; (focus rfl)) | (apply zv; (focus rfl)) | apply zx | apply zy | apply zB | apply zC | apply zD | apply zE | apply zF); (focus ((conv => lhs; simp (disch := omega) [-env0_get, bound, List.getElem?_cons_zero, List.getElem?_cons_succ, odt, odf, oip, oin, obt, obf, ont, onf, wrapI, owu, ow8, ow32, otd, oe0, oe1, oe2, oe3, oe4, oe5, oe6, otn, ot1, ot2, ot4, e1, e3, e4, e5']); first | done | rfl)); first | apply zk | (apply zn; (focus rfl); try (focus (first | rfl | (simp [e1, e3, e4, e5']; done)))) | (apply zo; (focus rfl)) | apply gv_u | apply gv_tt | apply gv_ff | apply gv_ft | apply gv_tf | (apply gv_split <;> intro hc <;> try simp only [decide_eq_true_eq, decide_eq_false_iff_not, beq_iff_eq, beq_eq_false_iff_ne, bne_iff_ne, bne_eq_false_iff_eq, Bool.not_true, Bool.not_false, ne_eq] at hc))
 | (simp (disch := omega) only [thenQ_normal, thenQ_exit, thenQ_ret, blockQ_normal, blockQ_ret, blockQ_exit_same, blockQ_exit_ne]))
    exact K _ (by simp [e4])
  | succ i =>
    have e5' : env 5 = .int .i64 (i : Nat) := by rw [e5]; simp
    obtain ⟨b, o, c, cs, rfl, hb, hcs, hg⟩ := r.get (by omega)
    have hil : i < l.length := by omega
    have hx := hg i l[i] (by simp [hil])
    have hd9 := hd l[i] (List.getElem_mem _)
    have hdr : numV (l.drop i) = l[i] + 10 * numV (l.drop (i + 1)) := by rw [List.drop_eq_getElem_cons hil, numV]
    have hle := numV_drop_le l i
    generalize hA : numV (l.drop (i + 1)) = A at *
    generalize hD : l[i] = D at *
    have w1 : IntKind.i64.wrap (s * (A : Int) * 10) = s * A * 10 := wrapI (by rcases (by omega : s = -1 ∨ s = 0 ∨ s = 1) with rfl | rfl | rfl <;> omega)
    have w2 : IntKind.i64.wrap (s * (D : Int)) = s * D := wrapI (by rcases (by omega : s = -1 ∨ s = 0 ∨ s = 1) with rfl | rfl | rfl <;> omega)
    have w3 : IntKind.i64.wrap (s * (A : Int) * 10 + s * D) = s * (numV (l.drop i) : Nat) := by
      rw [hdr, wrapI (by rcases (by omega : s = -1 ∨ s = 0 ∨ s = 1) with rfl | rfl | rfl <;> omega)]
      rcases (by omega : s = -1 ∨ s = 0 ∨ s = 1) with rfl | rfl | rfl <;> omega
    repeat' (first
 | refine za ?_ | refine zb ?_ | refine zc ?_ | refine zd ?_ | refine ze ?_ | refine zf ?_ | refine zg ?_ | refine zh ?_ | (refine zi ?_; try refine RgD_plain rfl ?_) | refine w_drawn rfl ?_ | refine zj ?_ | refine zl ?_
 | ((first | apply zs | (apply zt; (focus rfl)) | (apply zu; (focus rfl)) | (apply zv; (focus rfl)) | apply zx | apply zy | apply zB | apply zC | apply zD | apply zE | apply zF); (focus ((conv => lhs; simp (disch := omega) [-env0_get, bound, List.getElem?_cons_zero, List.getElem?_cons_succ, odt, odf, oip, oin, obt, obf, ont, onf, wrapI, owu, ow8, ow32, otd, oe0, oe1, oe2, oe3, oe4, oe5, oe6, otn, ot1, ot2, ot4, e1, e3, e4, e5', hcs, hx, hp, w1, w2, w3]); first | done | rfl)); first | apply zk | (apply zn; (focus rfl); try (focus (first | rfl | (simp [e1, e3, e4, e5', hcs, hx, hp, w1, w2, w3]; done)))) | (apply zo; (focus rfl)) | apply gv_u | apply gv_tt | apply gv_ff | apply gv_ft | apply gv_tf | (apply gv_split <;> intro hc <;> try simp only [decide_eq_true_eq, decide_eq_false_iff_not, beq_iff_eq, beq_eq_false_iff_ne, bne_iff_ne, bne_eq_false_iff_eq, Bool.not_true, Bool.not_false, ne_eq] at hc))
 | (simp (disch := omega) only [thenQ_normal, thenQ_exit, thenQ_ret, blockQ_normal, blockQ_ret, blockQ_exit_same, blockQ_exit_ne]))
    exact ⟨i, ⟨by trivial, by simp [e1], by simp [e3], by simp, by simp, by omega⟩, by omega⟩
theorem end_runs {s : Int} {v : Value} {l : List Nat} (r : NRow h v l) (hs : -1 ≤ s ∧ s ≤ 1) (hl : l.length ≤ 900000) (hi : isN s l = true) (hd : ∀ d ∈ l, d ≤ 9) : Runs X ⟨f, []⟩ 145 [.agg #[.int .i64 s, v]] h (.int .i64 (s * numV l)) h := by
  have hm : numV l ≤ most (s < 0) := by
    unfold isN at hi
    rw [moreN_eq hd (ends_le _), numV_ends] at hi
    simp at hi; omega
  have ho : Go.AM.one v = true := by obtain ⟨a, c, rfl⟩ := r.form; rfl
  refine Runs_of rfl f145_is ?_
  simp only [f145r0, f145r1, f145r2, f145r3, f145r4, f145r5, f145r6, f145r7, f145r8, f145l9, f145r10, f145b]
  obtain ⟨a, c, rfl⟩ := r.form
  repeat' (first
 | refine za ?_ | refine zb ?_ | refine zc ?_ | refine zd ?_ | refine ze ?_ | refine zf ?_ | refine zg ?_ | refine zh ?_ | (refine zi ?_; try refine RgD_plain rfl ?_) | refine w_drawn rfl ?_ | refine zj ?_ | refine zl ?_
 | ((first | apply zs | (apply zt; (focus rfl)) | (apply zu; (focus rfl)) | (apply zv; (focus rfl)) | apply zw | apply zx | apply zy | apply zB | apply zC | apply zD | apply zE | apply zF); (focus ((conv => lhs; simp (disch := omega) [-env0_get, bound, List.getElem?_cons_zero, List.getElem?_cons_succ, odt, odf, oip, oin, obt, obf, ont, onf, wrapI, owu, ow8, ow32, otd, oe0, oe1, oe2, oe3, oe4, oe5, oe6, otn, ot1, ot2, ot4, hi, Value.cells]); first | done | rfl)); first | apply zk | (apply zn; (focus rfl); try (focus (first | rfl | (simp [hi, Value.cells]; done)))) | (apply zo; (focus rfl)) | apply gv_u | apply gv_tt | apply gv_ff | apply gv_ft | apply gv_tf | (apply gv_split <;> intro hc <;> try simp only [decide_eq_true_eq, decide_eq_false_iff_not, beq_iff_eq, beq_eq_false_iff_ne, bne_iff_ne, bne_eq_false_iff_eq, Bool.not_true, Bool.not_false, ne_eq] at hc) | exact (is_runs (r.push _) hl))
 | (simp (disch := omega) only [thenQ_normal, thenQ_exit, thenQ_ret, blockQ_normal, blockQ_ret, blockQ_exit_same, blockQ_exit_ne]))
  refine end_loop (p := h.size) (r.push _) hs hl ?_ ?_ hd (by simp) (fun env e4 => ?_) _ (by simp) (by simp) (by simp) (by simp)
  · unfold most at hm; split at hm <;> omega
  · intro q; unfold most at hm; rw [if_neg (by omega)] at hm; exact hm
  · repeat' (first
 | refine za ?_ | refine zb ?_ | refine zc ?_ | refine zd ?_ | refine ze ?_ | refine zf ?_ | refine zg ?_ | refine zh ?_ | (refine zi ?_; try refine RgD_plain rfl ?_) | refine w_drawn rfl ?_ | refine zj ?_ | refine zl ?_
 | ((first | apply zs | (apply zt; (focus rfl)) | (apply zu; (focus rfl)) | (apply zv; (focus rfl)) | apply zx | apply zy | apply zB | apply zC | apply zD | apply zE | apply zF); (focus ((conv => lhs; simp (disch := omega) [-env0_get, bound, List.getElem?_cons_zero, List.getElem?_cons_succ, odt, odf, oip, oin, obt, obf, ont, onf, wrapI, owu, ow8, ow32, otd, oe0, oe1, oe2, oe3, oe4, oe5, oe6, otn, ot1, ot2, ot4, e4]); first | done | rfl)); first | apply zk | (apply zn; (focus rfl); try (focus (first | rfl | (simp [e4]; done)))) | (apply zo; (focus rfl)) | apply gv_u | apply gv_tt | apply gv_ff | apply gv_ft | apply gv_tf | (apply gv_split <;> intro hc <;> try simp only [decide_eq_true_eq, decide_eq_false_iff_not, beq_iff_eq, beq_eq_false_iff_ne, bne_iff_ne, bne_eq_false_iff_eq, Bool.not_true, Bool.not_false, ne_eq] at hc))
 | (simp (disch := omega) only [thenQ_normal, thenQ_exit, thenQ_ret, blockQ_normal, blockQ_ret, blockQ_exit_same, blockQ_exit_ne]))
end Go.Proofs.Ytlgbeekhaoiggaa
end

section
namespace Go.Proofs.Ytlgbeekhaoiggaa
open Go.AM
set_option maxHeartbeats 4000000
variable {f : Nat} {h : Heap}
def wholeN (l : List UInt8) : Option (Int × List Nat) :=
  if l.head? = some 45 then (if (∀ b ∈ l.tail, isDig b) ∧ l.tail ≠ [] ∧ ¬ l.tail.head? = some 48 then some (-1, (l.tail.map dval).reverse) else none)
  else if (∀ b ∈ l, isDig b) ∧ l ≠ [] ∧ ¬(l.head? = some 48 ∧ l.length > 1) then (if l.head? = some 48 then some (0, []) else some (1, (l.map dval).reverse)) else none
theorem nvs_app (l : List Nat) (d : Nat) : nvs (l ++ [d]) = nvs l ++ [.int .i64 (d : Nat)] := by simp [nvs]
theorem nvs_one (l : List Nat) : (nvs l).all Go.AM.one = true := by simp [nvs]
theorem whole_loop {hb h : Heap} {l : List UInt8} {F p2 p4 : Nat} {s : Int} {Q : AExit → Env → Heap → Prop} (hl : l.length ≤ 900000) (hF : F ≤ l.length) (hp : p2 ≠ p4)
    (K : ∀ env h' w, (∀ b ∈ l.drop F, isDig b) → env 2 = .pointer (some ⟨p2, 0, none⟩) → env 4 = .pointer (some ⟨p4, 0, none⟩) → env 5 = .int .i64 F → KeepB hb h' none → h'[p2]? = some (.cells [.int .i64 0, .slice none 0 0] 108) → h'[p4]? = some (.cells [.int .i64 s, w] 108) →
      Buf hb.size h' 3 1 w (nvs ((l.drop F).map dval).reverse) → hb.size ≤ p2 → hb.size ≤ p4 → Q (.exit 0) env h')
    (KR : ∀ env h', ¬ (∀ b ∈ l.drop F, isDig b) → env 2 = .pointer (some ⟨p2, 0, none⟩) → env 3 = .bool false → KeepB hb h' none → h'[p2]? = some (.cells [.int .i64 0, .slice none 0 0] 108) → Q .ret env h')
    (hk : KeepB hb h none) (h2 : h[p2]? = some (.cells [.int .i64 0, .slice none 0 0] 108)) (h4 : h[p4]? = some (.cells [.int .i64 s, .slice none 0 0] 108)) (g2 : hb.size ≤ p2) (g4 : hb.size ≤ p4) :
    ∀ env, env 0 = sv l → env 2 = .pointer (some ⟨p2, 0, none⟩) → env 4 = .pointer (some ⟨p4, 0, none⟩) → env 5 = .int .i64 F → env 6 = .int .i64 ((l.length : Int) - 1) → Ok X ⟨hb.size, []⟩ (.loop f143l13) env h Q := by
  intro env e0 e2 e4 e5 e6
  refine w_loop (A := Nat × Value) (fun a env h' => env 0 = sv l ∧ env 2 = .pointer (some ⟨p2, 0, none⟩) ∧ env 4 = .pointer (some ⟨p4, 0, none⟩) ∧ env 5 = .int .i64 F ∧ env 6 = .int .i64 ((a.1 : Int) - 1) ∧ F ≤ a.1 ∧ a.1 ≤ l.length ∧ (∀ b ∈ l.drop a.1, isDig b) ∧
    KeepB hb h' none ∧ h'[p2]? = some (.cells [.int .i64 0, .slice none 0 0] 108) ∧ h'[p4]? = some (.cells [.int .i64 s, a.2] 108) ∧ Buf hb.size h' 3 1 a.2 (nvs ((l.drop a.1).map dval).reverse) ∧ blk a.2 ≠ some p2 ∧ blk a.2 ≠ some p4) (fun a => a.1) (a0 := (l.length, .slice none 0 0))
    ⟨e0, e2, e4, e5, e6, hF, Nat.le_refl _, by simp, hk, h2, h4, .inl ⟨rfl, by simp [nvs]⟩, by simp [blk], by simp [blk]⟩ ?_
  clear e0 e2 e4 e5 e6 hk h2 h4 h
  rintro ⟨i, w⟩ env h ⟨e0, e2, e4, e5, e6, hFi, hi, hdig, hk, h2, h4, hbuf, n2, n4⟩
  simp only at e6 hFi hi hdig h4 hbuf n2 n4
  simp only [f143l13, f143r8, f143r9, f143r10, f143r11, f143r12]
  have l2 := (Array.getElem?_eq_some_iff.1 h2).1
  have l4 := (Array.getElem?_eq_some_iff.1 h4).1
  have hsz := hk.1
  have c4 : h.cellsAt p4 = some [.int .i64 s, w] := by unfold Heap.cellsAt; rw [h4]
  by_cases hi0 : i = F
  · subst hi0
    repeat' (first
 | refine za ?_ | refine zb ?_ | refine zc ?_ | refine zd ?_ | refine ze ?_ | refine zf ?_ | refine zg ?_ | refine zh ?_ | (refine zi ?_; try refine RgD_plain rfl ?_) | refine w_drawn rfl ?_ | refine zj ?_ | refine zl ?_
 | ((first | apply zs | (apply zt; (focus rfl)) | (apply zu; (focus rfl)) | (apply zv; (focus rfl)) | apply zx | apply zy | apply zB | apply zC | apply zD | apply zE | apply zF); (focus ((conv => lhs; simp (disch := omega) [-env0_get, bound, List.getElem?_cons_zero, List.getElem?_cons_succ, odt, odf, oip, oin, obt, obf, ont, onf, wrapI, owu, ow8, ow32, otd, oe0, oe1, oe2, oe3, oe4, oe5, oe6, otn, ot1, ot2, ot4, e0, e2, e4, e5, e6]); first | done | rfl)); first | apply zk | (apply zn; (focus rfl); try (focus (first | rfl | (simp [e0, e2, e4, e5, e6]; done)))) | (apply zo; (focus rfl)) | apply gv_u | apply gv_tt | apply gv_ff | apply gv_ft | apply gv_tf | (apply gv_split <;> intro hc <;> try simp only [decide_eq_true_eq, decide_eq_false_iff_not, beq_iff_eq, beq_eq_false_iff_ne, bne_iff_ne, bne_eq_false_iff_eq, Bool.not_true, Bool.not_false, ne_eq] at hc))
 | (simp (disch := omega) only [thenQ_normal, thenQ_exit, thenQ_ret, blockQ_normal, blockQ_ret, blockQ_exit_same, blockQ_exit_ne]))
    exact K _ h w hdig (by simp [e2]) (by simp [e4]) (by simp [e5]) hk h2 h4 hbuf g2 g4
  · obtain ⟨j, rfl⟩ : ∃ j, i = j + 1 := ⟨i - 1, by omega⟩
    have hj : j < l.length := by omega
    obtain ⟨b, hbv⟩ : ∃ b, l[j] = b := ⟨_, rfl⟩
    have hd : l.drop j = b :: l.drop (j + 1) := by rw [List.drop_eq_getElem_cons hj, hbv]
    have hmem : b ∈ l.drop F := by rw [List.mem_drop_iff_getElem]; exact ⟨j - F, by omega, by simp [show j - F + F = j by omega, show F + (j - F) = j by omega, hbv]⟩
    have e6' : env 6 = .int .i64 (j : Nat) := by rw [e6]; simp
    by_cases hdg : isDig b
    · obtain ⟨d1, d2⟩ := hdg
      repeat' (first
 | refine za ?_ | refine zb ?_ | refine zc ?_ | refine zd ?_ | refine ze ?_ | refine zf ?_ | refine zg ?_ | refine zh ?_ | (refine zi ?_; try refine RgD_plain rfl ?_) | refine w_drawn rfl ?_ | refine zj ?_ | refine zl ?_
 | ((first | apply zs | (apply zt; (focus rfl)) | (apply zu; (focus rfl)) | (apply zv; (focus rfl)) | apply zx | apply zy | apply zB | apply zC | apply zD | apply zE | apply zF); (focus ((conv => lhs; simp (disch := omega) [-env0_get, bound, List.getElem?_cons_zero, List.getElem?_cons_succ, odt, odf, oip, oin, obt, obf, ont, onf, wrapI, owu, ow8, ow32, otd, oe0, oe1, oe2, oe3, oe4, oe5, oe6, otn, ot1, ot2, ot4, e0, e2, e4, e5, e6', hbv, c4]); first | done | rfl)); first | apply zk | (apply zn; (focus rfl); try (focus (first | rfl | (simp [e0, e2, e4, e5, e6', hbv, c4]; done)))) | (apply zo; (focus rfl)) | apply gv_u | apply gv_tt | apply gv_ff | apply gv_ft | apply gv_tf | (apply gv_split <;> intro hc <;> try simp only [decide_eq_true_eq, decide_eq_false_iff_not, beq_iff_eq, beq_eq_false_iff_ne, bne_iff_ne, bne_eq_false_iff_eq, Bool.not_true, Bool.not_false, ne_eq] at hc))
 | (simp (disch := omega) only [thenQ_normal, thenQ_exit, thenQ_ret, blockQ_normal, blockQ_ret, blockQ_exit_same, blockQ_exit_ne]))
      have hval : ((b.toNat : Int) - 48) = (dval b : Nat) := by unfold dval; omega
      have hlen : (nvs ((l.drop (j + 1)).map dval).reverse).length ≤ 900000 := by simp [nvs]; omega
      obtain ⟨v', h', q1, q2, q3, q4⟩ := append_buf (f := hb.size) (h := h.push (.cells [.int .i64 ((b.toNat : Int) - 48)] 3)) (by_ := 8) (n := (nvs ((l.drop (j + 1)).map dval).reverse).length) (m := 1) (x := .slice (some ⟨h.size, 0, none⟩) 1 1) (l2 := [.int .i64 ((b.toNat : Int) - 48)]) (by omega : 0 < 1) (by simp; omega) (hbuf.push _) (by simp [srcCells, grab]) (by omega) (by omega) (nvs_one _) rfl (by omega) (by omega) rfl
      refine w_mem (v := v') (h' := h') rfl (by simpa [e0, e2, e4, c4] using q1) ?_
      obtain ⟨a', n', rfl⟩ := q2.form
      have s3 := q3.1
      simp at s3
      have k2 : h'[p2]? = some (.cells [.int .i64 0, .slice none 0 0] 108) := by rw [q3.2 p2 (by simp; omega) n2, Array.getElem?_push, if_neg (by omega)]; exact h2
      have k4 : h'[p4]? = some (.cells [.int .i64 s, w] 108) := by rw [q3.2 p4 (by simp; omega) n4, Array.getElem?_push, if_neg (by omega)]; exact h4
      repeat' (first
 | refine za ?_ | refine zb ?_ | refine zc ?_ | refine zd ?_ | refine ze ?_ | refine zf ?_ | refine zg ?_ | refine zh ?_ | (refine zi ?_; try refine RgD_plain rfl ?_) | refine w_drawn rfl ?_ | refine zj ?_ | refine zl ?_
 | ((first | apply zs | (apply zt; (focus rfl)) | (apply zu; (focus rfl)) | (apply zv; (focus rfl)) | apply zx | apply zy | apply zB | apply zC | apply zD | apply zE | apply zF); (focus ((conv => lhs; simp (disch := omega) [-env0_get, bound, List.getElem?_cons_zero, List.getElem?_cons_succ, odt, odf, oip, oin, obt, obf, ont, onf, wrapI, owu, ow8, ow32, otd, oe0, oe1, oe2, oe3, oe4, oe5, oe6, otn, ot1, ot2, ot4, e0, e2, e4, e5, e6', wr_def k4]); first | done | rfl)); first | apply zk | (apply zn; (focus rfl); try (focus (first | rfl | (simp [e0, e2, e4, e5, e6', wr_def k4]; done)))) | (apply zo; (focus rfl)) | apply gv_u | apply gv_tt | apply gv_ff | apply gv_ft | apply gv_tf | (apply gv_split <;> intro hc <;> try simp only [decide_eq_true_eq, decide_eq_false_iff_not, beq_iff_eq, beq_eq_false_iff_ne, bne_iff_ne, bne_eq_false_iff_eq, Bool.not_true, Bool.not_false, ne_eq] at hc))
 | (simp (disch := omega) only [thenQ_normal, thenQ_exit, thenQ_ret, blockQ_normal, blockQ_ret, blockQ_exit_same, blockQ_exit_ne]))
      refine ⟨(j, .slice a' n' n'), ⟨by simp [e0], by simp [e2], by simp [e4], by simp [e5], by simp, by omega, by omega, ?_, ?_, ?_, ?_, ?_, ?_, ?_⟩, by simp only; omega⟩
      · simp only; rw [hd]; intro x hx
        rcases List.mem_cons.1 hx with rfl | hx
        · exact ⟨d1, d2⟩
        · exact hdig x hx
      · refine ((hk.push _).trans' q3 (fun y hy => ?_)).set _ (.inl g4)
        rcases hbuf with ⟨rfl, _⟩ | ⟨b1, n1, rfl, _, _, q⟩
        · simp [blk] at hy
        · simp [blk] at hy; omega
      · rw [Array.getElem?_setIfInBounds, if_neg (Ne.symm hp)]; exact k2
      · rw [Array.getElem?_setIfInBounds, if_pos rfl, if_pos (by omega)]
      · simp only
        rw [hval] at q2
        rw [hd, List.map_cons, List.reverse_cons, nvs_app]
        exact q2.keepB ((KeepB.refl h' (some p4)).set _ (.inr rfl)) (.inr (by rw [q4]; simp; omega))
      · simp only; rw [q4]; simp; omega
      · simp only; rw [q4]; simp; omega
    · have hnd : ¬ (∀ b ∈ l.drop F, isDig b) := fun q => hdg (q b hmem)
      unfold isDig at hdg
      repeat' (first
 | refine za ?_ | refine zb ?_ | refine zc ?_ | refine zd ?_ | refine ze ?_ | refine zf ?_ | refine zg ?_ | refine zh ?_ | (refine zi ?_; try refine RgD_plain rfl ?_) | refine w_drawn rfl ?_ | refine zj ?_ | refine zl ?_
 | ((first | apply zs | (apply zt; (focus rfl)) | (apply zu; (focus rfl)) | (apply zv; (focus rfl)) | apply zx | apply zy | apply zB | apply zC | apply zD | apply zE | apply zF); (focus ((conv => lhs; simp (disch := omega) [-env0_get, bound, List.getElem?_cons_zero, List.getElem?_cons_succ, odt, odf, oip, oin, obt, obf, ont, onf, wrapI, owu, ow8, ow32, otd, oe0, oe1, oe2, oe3, oe4, oe5, oe6, otn, ot1, ot2, ot4, e0, e2, e4, e5, e6', hbv, wr_def h2]); first | done | rfl)); first | apply zk | (apply zn; (focus rfl); try (focus (first | rfl | (simp [e0, e2, e4, e5, e6', hbv, wr_def h2]; done)))) | (apply zo; (focus rfl)) | apply gv_u | apply gv_tt | apply gv_ff | apply gv_ft | apply gv_tf | (apply gv_split <;> intro hc <;> try simp only [decide_eq_true_eq, decide_eq_false_iff_not, beq_iff_eq, beq_eq_false_iff_ne, bne_iff_ne, bne_eq_false_iff_eq, Bool.not_true, Bool.not_false, ne_eq] at hc))
 | (simp (disch := omega) only [thenQ_normal, thenQ_exit, thenQ_ret, blockQ_normal, blockQ_ret, blockQ_exit_same, blockQ_exit_ne]))
      all_goals
        refine KR _ _ hnd (by simp [e2]) (by simp) (hk.set _ (.inl g2)) ?_
        rw [Array.getElem?_setIfInBounds, if_pos rfl, if_pos l2]
theorem finish_big {h0 h : Heap} {w : Value} {l : List Nat} {s : Int} {t : Bool} (hb : Buf h0.size h 3 1 w (nvs l)) :
    ∃ w' h', finish .pure h0 h (.tuple #[.agg #[.int .i64 s, w], .bool t]) = some (.tuple #[.agg #[.int .i64 s, w'], .bool t], h') ∧ KeepB h0 h' none ∧ NRow h' w' l := by
  rcases hb with ⟨rfl, hl⟩ | ⟨b, n, rfl, hn, hc, hb⟩
  · have : l = [] := by simpa [nvs] using hl
    subst this
    exact ⟨_, h0, finish_pure (by simp [vBelow, vb]), .refl _ _, ⟨.inl ⟨rfl, rfl, rfl⟩⟩⟩
  · have hlen : n = l.length := by simpa [nvs] using hn
    subst hlen
    refine ⟨.slice (some ⟨h0.size, 0, none⟩) l.length l.length, h0.push (.cells (nvs l) 3), ?_, (KeepB.refl _ _).push _, NRow.new rfl rfl⟩
    have hlt : ¬ b < h0.size := by omega
    simp [finish, outTop, outAgg, outLeaf, outList, vBelow, vb, hlt, hc, nvs]
theorem whole_rest {hb h : Heap} {l : List UInt8} {F p2 p4 : Nat} {s : Int} {w : Value} {env : Env} (hl : l.length ≤ 900000) (hF : F ≤ l.length) (hF1 : F = 0 ∧ s = 1 ∧ l.head? ≠ some 45 ∨ F = 1 ∧ s = -1 ∧ l.head? = some 45)
    (hdig : ∀ b ∈ l.drop F, isDig b) (e2 : env 2 = .pointer (some ⟨p2, 0, none⟩)) (e4 : env 4 = .pointer (some ⟨p4, 0, none⟩)) (e5 : env 5 = .int .i64 F) (hk : KeepB hb h none) (h2 : h[p2]? = some (.cells [.int .i64 0, .slice none 0 0] 108))
    (h4 : h[p4]? = some (.cells [.int .i64 s, w] 108)) (hbuf : Buf hb.size h 3 1 w (nvs ((l.drop F).map dval).reverse)) (g2 : hb.size ≤ p2) (g4 : hb.size ≤ p4) :
    Ok X ⟨hb.size, []⟩ (.seq (.seq (.reg f143r14) (.cond (.t 49) (.seq (.reg f143r15) .ret) .skip)) (.seq (.seq (.reg f143r16) (.cond (.t 69) (.seq (.reg f143r17) .ret) .skip))
      (.seq (.seq (.reg f143r18) (.cond (.t 79) (.seq (.reg f143r19) .ret) .skip)) (.seq (.reg f143r20) .ret)))) env h
      (EndsR [.cellN 2 2, .tmp 3] .pure hb fun v h' => KeepB hb h' none ∧ ((wholeN l = none ∧ v = .tuple #[.agg #[.int .i64 0, .slice none 0 0], .bool false]) ∨ ∃ s D w, wholeN l = some (s, D) ∧ NRow h' w D ∧ v = .tuple #[.agg #[.int .i64 s, w], .bool true])) := by
  have l2 := (Array.getElem?_eq_some_iff.1 h2).1
  have l4 := (Array.getElem?_eq_some_iff.1 h4).1
  have c4 : h.cellsAt p4 = some [.int .i64 s, w] := by unfold Heap.cellsAt; rw [h4]
  have hDl : ((l.drop F).map dval).reverse.length = l.length - F := by simp
  have hrow : NRow h w ((l.drop F).map dval).reverse := hbuf.row (by omega) (by simp [nvs])
  simp only [f143r14, f143r15, f143r16, f143r17, f143r18, f143r19, f143r20]
  by_cases h0 : l.length = F
  · have hd : l.drop F = [] := List.drop_eq_nil_of_le (by omega)
    have hw : wholeN l = none := by
      unfold wholeN
      rcases hF1 with ⟨rfl, rfl, q⟩ | ⟨rfl, rfl, q⟩
      · rw [if_neg q, if_neg]; rintro ⟨_, q2, _⟩; exact q2 (List.length_eq_zero_iff.1 h0)
      · rw [if_pos q, if_neg]; rintro ⟨_, q2, _⟩; exact q2 (List.length_eq_zero_iff.1 (by simp; omega))
    obtain ⟨a, n, rfl⟩ := hbuf.form
    have hn : n = 0 := by have := hrow.len; rw [hd] at hbuf; rcases hbuf with ⟨q, _⟩ | ⟨b, n', q, q2, _⟩ <;> cases q <;> simp [nvs] at * <;> omega
    subst hn
    repeat' (first
 | refine za ?_ | refine zb ?_ | refine zc ?_ | refine zd ?_ | refine ze ?_ | refine zf ?_ | refine zg ?_ | refine zh ?_ | (refine zi ?_; try refine RgD_plain rfl ?_) | refine w_drawn rfl ?_ | refine zj ?_ | refine zl ?_
 | ((first | apply zs | (apply zt; (focus rfl)) | (apply zu; (focus rfl)) | (apply zv; (focus rfl)) | apply zx | apply zy | apply zB | apply zC | apply zD | apply zE | apply zF); (focus ((conv => lhs; simp (disch := omega) [-env0_get, bound, List.getElem?_cons_zero, List.getElem?_cons_succ, odt, odf, oip, oin, obt, obf, ont, onf, wrapI, owu, ow8, ow32, otd, oe0, oe1, oe2, oe3, oe4, oe5, oe6, otn, ot1, ot2, ot4, e2, e4, e5, c4, wr_def h2]); first | done | rfl)); first | apply zk | (apply zn; (focus rfl); try (focus (first | rfl | (simp [e2, e4, e5, c4, wr_def h2]; done)))) | (apply zo; (focus rfl)) | apply gv_u | apply gv_tt | apply gv_ff | apply gv_ft | apply gv_tf | (apply gv_split <;> intro hc <;> try simp only [decide_eq_true_eq, decide_eq_false_iff_not, beq_iff_eq, beq_eq_false_iff_ne, bne_iff_ne, bne_eq_false_iff_eq, Bool.not_true, Bool.not_false, ne_eq] at hc))
 | (simp (disch := omega) only [thenQ_normal, thenQ_exit, thenQ_ret, blockQ_normal, blockQ_ret, blockQ_exit_same, blockQ_exit_ne]))
    exact ⟨.refl _ _, .inl ⟨hw, rfl⟩⟩
  · obtain ⟨b, o, c, cs, rfl, hblt, hcs, hg⟩ := hrow.get (by omega)
    rw [hDl] at h4 c4 hbuf
    have hFl : F < l.length := by omega
    have hlast : ((l.drop F).map dval).reverse[l.length - F - 1]? = some (dval l[F]) := by
      rw [List.getElem?_reverse (by simp; omega)]
      simp [show l.length - F - 1 - (l.length - F - 1) = 0 by omega, hFl]
    have hx := hg _ _ hlast
    have hhd : (l.drop F).head? = some l[F] := by rw [List.head?_drop]; simp [hFl]
    have hdF := hdig l[F] (List.mem_of_mem_head? hhd)
    have hz : dval l[F] = 0 ↔ l[F] = 48 := by
      rw [← UInt8.toNat_inj]; unfold dval; have := hdF.1; show _ ↔ l[F].toNat = 48; omega
    have hix : ((l.length - F : Nat) : Int) - 1 = ((l.length - F - 1 : Nat) : Int) := by omega
    have c2 : ((l.length - F - 1 : Nat) : Int).toNat = l.length - F - 1 := by omega
    by_cases hzero : l[F] = 48
    · have hv0 : dval l[F] = 0 := hz.2 hzero
      rw [hv0] at hx
      by_cases hmany : 1 < l.length - F ∨ 0 < F
      · have hw : wholeN l = none := by
          unfold wholeN
          rcases hF1 with ⟨rfl, rfl, q⟩ | ⟨rfl, rfl, q⟩
          · rw [if_neg q, if_neg]
            rintro ⟨_, _, q3⟩
            refine q3 ⟨?_, by omega⟩
            rw [List.drop_zero, hzero] at hhd; exact hhd
          · rw [if_pos q, if_neg]
            rintro ⟨_, _, q3⟩
            refine q3 ?_
            rw [hzero] at hhd; rw [← List.drop_one]; exact hhd
        repeat' (first
 | refine za ?_ | refine zb ?_ | refine zc ?_ | refine zd ?_ | refine ze ?_ | refine zf ?_ | refine zg ?_ | refine zh ?_ | (refine zi ?_; try refine RgD_plain rfl ?_) | refine w_drawn rfl ?_ | refine zj ?_ | refine zl ?_
 | ((first | apply zs | (apply zt; (focus rfl)) | (apply zu; (focus rfl)) | (apply zv; (focus rfl)) | apply zx | apply zy | apply zB | apply zC | apply zD | apply zE | apply zF); (focus ((conv => lhs; simp (disch := omega) [-env0_get, bound, List.getElem?_cons_zero, List.getElem?_cons_succ, odt, odf, oip, oin, obt, obf, ont, onf, wrapI, owu, ow8, ow32, otd, oe0, oe1, oe2, oe3, oe4, oe5, oe6, otn, ot1, ot2, ot4, e2, e4, e5, c4, wr_def h2, hix, hcs, hx, c2]); first | done | rfl)); first | apply zk | (apply zn; (focus rfl); try (focus (first | rfl | (simp [e2, e4, e5, c4, wr_def h2, hix, hcs, hx, c2]; done)))) | (apply zo; (focus rfl)) | apply gv_u | apply gv_tt | apply gv_ff | apply gv_ft | apply gv_tf | (apply gv_split <;> intro hc <;> try simp only [decide_eq_true_eq, decide_eq_false_iff_not, beq_iff_eq, beq_eq_false_iff_ne, bne_iff_ne, bne_eq_false_iff_eq, Bool.not_true, Bool.not_false, ne_eq] at hc))
 | (simp (disch := omega) only [thenQ_normal, thenQ_exit, thenQ_ret, blockQ_normal, blockQ_ret, blockQ_exit_same, blockQ_exit_ne]))
        all_goals exact ⟨.refl _ _, .inl ⟨hw, rfl⟩⟩
      · have hw : wholeN l = some (0, []) := by
          unfold wholeN
          rcases hF1 with ⟨rfl, rfl, q⟩ | ⟨rfl, rfl, q⟩
          · rw [List.drop_zero, hzero] at hhd
            rw [List.drop_zero] at hdig
            rw [if_neg q, if_pos ⟨hdig, by intro q2; subst q2; simp at hFl, fun q2 => by omega⟩, if_pos hhd]
          · omega
        have hx0 : cs[o]? = some (.int .i64 (0 : Nat)) := by rw [show l.length - F - 1 = 0 by omega] at hx; exact hx
        repeat' (first
 | refine za ?_ | refine zb ?_ | refine zc ?_ | refine zd ?_ | refine ze ?_ | refine zf ?_ | refine zg ?_ | refine zh ?_ | (refine zi ?_; try refine RgD_plain rfl ?_) | refine w_drawn rfl ?_ | refine zj ?_ | refine zl ?_
 | ((first | apply zs | (apply zt; (focus rfl)) | (apply zu; (focus rfl)) | (apply zv; (focus rfl)) | apply zx | apply zy | apply zB | apply zC | apply zD | apply zE | apply zF); (focus ((conv => lhs; simp (disch := omega) [-env0_get, bound, List.getElem?_cons_zero, List.getElem?_cons_succ, odt, odf, oip, oin, obt, obf, ont, onf, wrapI, owu, ow8, ow32, otd, oe0, oe1, oe2, oe3, oe4, oe5, oe6, otn, ot1, ot2, ot4, e2, e4, e5, c4, wr_def h2, hix, hcs, hx, hx0, c2]); first | done | rfl)); first | apply zk | (apply zn; (focus rfl); try (focus (first | rfl | (simp [e2, e4, e5, c4, wr_def h2, hix, hcs, hx, hx0, c2]; done)))) | (apply zo; (focus rfl)) | apply gv_u | apply gv_tt | apply gv_ff | apply gv_ft | apply gv_tf | (apply gv_split <;> intro hc <;> try simp only [decide_eq_true_eq, decide_eq_false_iff_not, beq_iff_eq, beq_eq_false_iff_ne, bne_iff_ne, bne_eq_false_iff_eq, Bool.not_true, Bool.not_false, ne_eq] at hc))
 | (simp (disch := omega) only [thenQ_normal, thenQ_exit, thenQ_ret, blockQ_normal, blockQ_ret, blockQ_exit_same, blockQ_exit_ne]))
        exact ⟨KeepB.refl _ _, .inr ⟨_, _, _, hw, ⟨.inl ⟨rfl, rfl, rfl⟩⟩, rfl⟩⟩
    · have hv0 : ¬ dval l[F] = 0 := fun q => hzero (hz.1 q)
      generalize hV : dval l[F] = V at *
      have hw : wholeN l = some (s, ((l.drop F).map dval).reverse) := by
        unfold wholeN
        rcases hF1 with ⟨rfl, rfl, q⟩ | ⟨rfl, rfl, q⟩
        · rw [List.drop_zero] at hdig hhd ⊢
          have hne : ¬ l.head? = some 48 := by rw [hhd]; intro q; exact hzero (Option.some.inj q)
          rw [if_neg q, if_pos ⟨hdig, by intro q2; subst q2; simp at hFl, fun q2 => hne q2.1⟩, if_neg hne]
        · rw [List.drop_one] at hdig hhd ⊢
          have hne : ¬ l.tail.head? = some 48 := by rw [hhd]; intro q; exact hzero (Option.some.inj q)
          rw [if_pos q, if_pos ⟨hdig, by intro q2; rw [q2] at hhd; simp at hhd, hne⟩]
      repeat' (first
 | refine za ?_ | refine zb ?_ | refine zc ?_ | refine zd ?_ | refine ze ?_ | refine zf ?_ | refine zg ?_ | refine zh ?_ | (refine zi ?_; try refine RgD_plain rfl ?_) | refine w_drawn rfl ?_ | refine zj ?_ | refine zl ?_
 | ((first | apply zs | (apply zt; (focus rfl)) | (apply zu; (focus rfl)) | (apply zv; (focus rfl)) | apply zx | apply zy | apply zB | apply zC | apply zD | apply zE | apply zF); (focus ((conv => lhs; simp (disch := omega) [-env0_get, bound, List.getElem?_cons_zero, List.getElem?_cons_succ, odt, odf, oip, oin, obt, obf, ont, onf, wrapI, owu, ow8, ow32, otd, oe0, oe1, oe2, oe3, oe4, oe5, oe6, otn, ot1, ot2, ot4, e2, e4, e5, c4, wr_def h2, hix, hcs, hx, c2]); first | done | rfl)); first | apply zk | (apply zn; (focus rfl); try (focus (first | rfl | (simp [e2, e4, e5, c4, wr_def h2, hix, hcs, hx, c2]; done)))) | (apply zo; (focus rfl)) | apply gv_u | apply gv_tt | apply gv_ff | apply gv_ft | apply gv_tf | (apply gv_split <;> intro hc <;> try simp only [decide_eq_true_eq, decide_eq_false_iff_not, beq_iff_eq, beq_eq_false_iff_ne, bne_iff_ne, bne_eq_false_iff_eq, Bool.not_true, Bool.not_false, ne_eq] at hc))
 | (simp (disch := omega) only [thenQ_normal, thenQ_exit, thenQ_ret, blockQ_normal, blockQ_ret, blockQ_exit_same, blockQ_exit_ne]))
      have hbp : b ≠ p2 := by
        rintro rfl
        rcases hbuf with ⟨q, _⟩ | ⟨b', n', q, _, q3, _⟩
        · cases q
        · cases q; rw [h2] at q3; simp at q3
      all_goals
        obtain ⟨w', h', q1, q2, q3⟩ := finish_big (s := s) (t := true) (hbuf.keepB (h' := h.setIfInBounds p2 (.cells [.int .i64 s, .slice (some ⟨b, o, none⟩) (l.length - F) c] 108)) ((KeepB.refl h (some p2)).set _ (.inr rfl)) (.inr (by simp [blk, hbp])))
        exact w_endr (vs := [.agg #[.int .i64 s, .slice (some ⟨b, o, none⟩) (l.length - F) c], .bool true]) (by simp [e2, l2]) q1 ⟨q2, .inr ⟨_, _, w', hw, q3, rfl⟩⟩
theorem whole_runs {l : List UInt8} (hl : l.length ≤ 900000) : callR X ⟨f, []⟩ 143 [sv l] h fun v h' => KeepB h h' none ∧ ((wholeN l = none ∧ v = .tuple #[.agg #[.int .i64 0, .slice none 0 0], .bool false]) ∨ ∃ s D w, wholeN l = some (s, D) ∧ NRow h' w D ∧ v = .tuple #[.agg #[.int .i64 s, w], .bool true]) := by
  refine callR_of rfl f143_is ?_
  simp only [f143b, f143r0, f143r1, f143r2, f143r3, f143r4, f143r5, f143r6, f143r7]
  by_cases hh : l.head? = some 45
  · obtain ⟨t, rfl⟩ : ∃ t, l = 45 :: t := by cases l with | nil => simp at hh | cons a t => simp at hh; subst hh; exact ⟨t, rfl⟩
    repeat' (first
 | refine za ?_ | refine zb ?_ | refine zc ?_ | refine zd ?_ | refine ze ?_ | refine zf ?_ | refine zg ?_ | refine zh ?_ | (refine zi ?_; try refine RgD_plain rfl ?_) | refine w_drawn rfl ?_ | refine zj ?_ | refine zl ?_
 | ((first | apply zs | (apply zt; (focus rfl)) | (apply zu; (focus rfl)) | (apply zv; (focus rfl)) | apply zx | apply zy | apply zB | apply zC | apply zD | apply zE | apply zF); (focus ((conv => lhs; simp (disch := omega) [-env0_get, bound, List.getElem?_cons_zero, List.getElem?_cons_succ, odt, odf, oip, oin, obt, obf, ont, onf, wrapI, owu, ow8, ow32, otd, oe0, oe1, oe2, oe3, oe4, oe5, oe6, otn, ot1, ot2, ot4]); first | done | rfl)); first | apply zk | (apply zn; (focus rfl); try (focus (first | rfl | (simp; done)))) | (apply zo; (focus rfl)) | apply gv_u | apply gv_tt | apply gv_ff | apply gv_ft | apply gv_tf | (apply gv_split <;> intro hc <;> try simp only [decide_eq_true_eq, decide_eq_false_iff_not, beq_iff_eq, beq_eq_false_iff_ne, bne_iff_ne, bne_eq_false_iff_eq, Bool.not_true, Bool.not_false, ne_eq] at hc))
 | (simp (disch := omega) only [thenQ_normal, thenQ_exit, thenQ_ret, blockQ_normal, blockQ_ret, blockQ_exit_same, blockQ_exit_ne]))
    refine whole_loop (hb := h) (F := 1) (p2 := h.size) (p4 := h.size + 1) (s := -1) hl (by simp) (by omega) (fun env h' w hd e2 e4 e5 hk q2 q4 hbuf g2 g4 => ?_) (fun env h' hd e2 e3 hk q2 => ?_) (((KeepB.refl h none).push _).push _) (by simp [Array.getElem?_push]) (by rw [Array.getElem?_push, if_pos (by simp)]) (by omega) (by omega) _ (by simp) (by simp) (by simp) (by simp) (by first | (simp; done) | (simp at hl; simp; exact wrapI (by omega)))
    · simp only [blockQ_exit_same, thenQ_normal]
      exact whole_rest hl (by simp) (.inr ⟨rfl, rfl, hh⟩) hd e2 e4 e5 hk q2 q4 hbuf g2 g4
    · simp only [blockQ_ret, thenQ_ret]
      have c2 : h'.cellsAt h.size = some [.int .i64 0, .slice none 0 0] := by unfold Heap.cellsAt; rw [q2]
      have hw : wholeN (45 :: t) = none := by unfold wholeN; rw [if_pos hh, if_neg]; exact fun q => hd q.1
      repeat' (first
 | refine za ?_ | refine zb ?_ | refine zc ?_ | refine zd ?_ | refine ze ?_ | refine zf ?_ | refine zg ?_ | refine zh ?_ | (refine zi ?_; try refine RgD_plain rfl ?_) | refine w_drawn rfl ?_ | refine zj ?_ | refine zl ?_
 | ((first | apply zs | (apply zt; (focus rfl)) | (apply zu; (focus rfl)) | (apply zv; (focus rfl)) | apply zx | apply zy | apply zB | apply zC | apply zD | apply zE | apply zF); (focus ((conv => lhs; simp (disch := omega) [-env0_get, bound, List.getElem?_cons_zero, List.getElem?_cons_succ, odt, odf, oip, oin, obt, obf, ont, onf, wrapI, owu, ow8, ow32, otd, oe0, oe1, oe2, oe3, oe4, oe5, oe6, otn, ot1, ot2, ot4, e2, e3, c2]); first | done | rfl)); first | apply zk | (apply zn; (focus rfl); try (focus (first | rfl | (simp [e2, e3, c2]; done)))) | (apply zo; (focus rfl)) | apply gv_u | apply gv_tt | apply gv_ff | apply gv_ft | apply gv_tf | (apply gv_split <;> intro hc <;> try simp only [decide_eq_true_eq, decide_eq_false_iff_not, beq_iff_eq, beq_eq_false_iff_ne, bne_iff_ne, bne_eq_false_iff_eq, Bool.not_true, Bool.not_false, ne_eq] at hc))
 | (simp (disch := omega) only [thenQ_normal, thenQ_exit, thenQ_ret, blockQ_normal, blockQ_ret, blockQ_exit_same, blockQ_exit_ne]))
      exact ⟨.refl _ _, .inl ⟨hw, rfl⟩⟩
  · have hh' : ∀ h0 : 0 < l.length, ¬ l[0].toNat = 45 := fun h0 q => hh (by
      cases l with
      | nil => simp at h0
      | cons a t => simp at q ⊢; exact UInt8.toNat_inj.1 (by rw [q]; rfl))
    repeat' (first
 | refine za ?_ | refine zb ?_ | refine zc ?_ | refine zd ?_ | refine ze ?_ | refine zf ?_ | refine zg ?_ | refine zh ?_ | (refine zi ?_; try refine RgD_plain rfl ?_) | refine w_drawn rfl ?_ | refine zj ?_ | refine zl ?_
 | ((first | apply zs | (apply zt; (focus rfl)) | (apply zu; (focus rfl)) | (apply zv; (focus rfl)) | apply zx | apply zy | apply zB | apply zC | apply zD | apply zE | apply zF); (focus ((conv => lhs; simp (disch := omega) [-env0_get, bound, List.getElem?_cons_zero, List.getElem?_cons_succ, odt, odf, oip, oin, obt, obf, ont, onf, wrapI, owu, ow8, ow32, otd, oe0, oe1, oe2, oe3, oe4, oe5, oe6, otn, ot1, ot2, ot4]); first | done | rfl)); first | apply zk | (apply zn; (focus rfl); try (focus (first | rfl | (simp; done)))) | (apply zo; (focus rfl)) | apply gv_u | apply gv_tt | apply gv_ff | apply gv_ft | apply gv_tf | (apply gv_split <;> intro hc <;> try simp only [decide_eq_true_eq, decide_eq_false_iff_not, beq_iff_eq, beq_eq_false_iff_ne, bne_iff_ne, bne_eq_false_iff_eq, Bool.not_true, Bool.not_false, ne_eq] at hc))
 | (simp (disch := omega) only [thenQ_normal, thenQ_exit, thenQ_ret, blockQ_normal, blockQ_ret, blockQ_exit_same, blockQ_exit_ne]))
    all_goals first | (exfalso; have := hh' (by omega); omega) | skip
    all_goals
      refine whole_loop (hb := h) (F := 0) (p2 := h.size) (p4 := h.size + 1) (s := 1) hl (by omega) (by omega) (fun env h' w hd e2 e4 e5 hk q2 q4 hbuf g2 g4 => ?_) (fun env h' hd e2 e3 hk q2 => ?_) (((KeepB.refl h none).push _).push _) (by simp [Array.getElem?_push]) (by rw [Array.getElem?_push, if_pos (by simp)]) (by omega) (by omega) _ (by simp) (by simp) (by simp) (by simp) (by first | (simp; done) | (simp at hl; simp; exact wrapI (by omega)))
      · simp only [blockQ_exit_same, thenQ_normal]
        exact whole_rest hl (by omega) (.inl ⟨rfl, rfl, hh⟩) hd e2 e4 e5 hk q2 q4 hbuf g2 g4
      · simp only [blockQ_ret, thenQ_ret]
        have c2 : h'.cellsAt h.size = some [.int .i64 0, .slice none 0 0] := by unfold Heap.cellsAt; rw [q2]
        have hw : wholeN l = none := by unfold wholeN; rw [if_neg hh, if_neg]; exact fun q => hd (by simpa using q.1)
        repeat' (first
 | refine za ?_ | refine zb ?_ | refine zc ?_ | refine zd ?_ | refine ze ?_ | refine zf ?_ | refine zg ?_ | refine zh ?_ | (refine zi ?_; try refine RgD_plain rfl ?_) | refine w_drawn rfl ?_ | refine zj ?_ | refine zl ?_
 | ((first | apply zs | (apply zt; (focus rfl)) | (apply zu; (focus rfl)) | (apply zv; (focus rfl)) | apply zx | apply zy | apply zB | apply zC | apply zD | apply zE | apply zF); (focus ((conv => lhs; simp (disch := omega) [-env0_get, bound, List.getElem?_cons_zero, List.getElem?_cons_succ, odt, odf, oip, oin, obt, obf, ont, onf, wrapI, owu, ow8, ow32, otd, oe0, oe1, oe2, oe3, oe4, oe5, oe6, otn, ot1, ot2, ot4, e2, e3, c2]); first | done | rfl)); first | apply zk | (apply zn; (focus rfl); try (focus (first | rfl | (simp [e2, e3, c2]; done)))) | (apply zo; (focus rfl)) | apply gv_u | apply gv_tt | apply gv_ff | apply gv_ft | apply gv_tf | (apply gv_split <;> intro hc <;> try simp only [decide_eq_true_eq, decide_eq_false_iff_not, beq_iff_eq, beq_eq_false_iff_ne, bne_iff_ne, bne_eq_false_iff_eq, Bool.not_true, Bool.not_false, ne_eq] at hc))
 | (simp (disch := omega) only [thenQ_normal, thenQ_exit, thenQ_ret, blockQ_normal, blockQ_ret, blockQ_exit_same, blockQ_exit_ne]))
        exact ⟨.refl _ _, .inl ⟨hw, rfl⟩⟩
end Go.Proofs.Ytlgbeekhaoiggaa
end
