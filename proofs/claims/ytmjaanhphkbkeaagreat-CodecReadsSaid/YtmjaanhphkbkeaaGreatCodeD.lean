import Derived.Test.YtmjaanhphkbkeaaGreatCodeC
set_option linter.all false
section
namespace Go.Proofs.YtmjaanhphkbkeaaGreat
open Go.AM
set_option linter.unusedSimpArgs false
set_option linter.unusedVariables false
variable {f : Nat} {h : Heap}
/-! ### numbers, read -/
def valB : List Nat → Nat
  | [] => 0
  | b :: r => b % 128 + 128 * valB r
theorem valB_append : ∀ (l : List Nat) (b : Nat), valB (l ++ [b]) = valB l + 128 ^ l.length * (b % 128)
  | [], b => by simp [valB]
  | a :: l, b => by
    simp only [List.cons_append, valB, valB_append l b, List.length_cons]
    rw [show 128 ^ (l.length + 1) * (b % 128) = 128 * (128 ^ l.length * (b % 128)) by rw [Nat.pow_succ]; ac_rfl]
    omega
theorem valB_lt : ∀ (l : List Nat), valB l < 128 ^ l.length
  | [] => by simp [valB]
  | a :: l => by
    have := valB_lt l
    simp only [valB, List.length_cons]
    rw [Nat.pow_succ]
    omega
def getU : Nat → List Nat → Option (Nat × Nat)
  | 0, _ => none
  | _ + 1, [] => none
  | k + 1, b :: r => if b < 128 then some (b, 1) else (getU k r).map fun p => (b % 128 + 128 * p.1, p.2 + 1)
def unzig (w : Nat) : Int := if w % 2 = 0 then (w / 2 : Nat) else -((w / 2 : Nat) : Int) - 1
def readNum (l : List Nat) : Int × Nat := match getU 10 l with
  | none => (0, 0)
  | some (u, n) => if numB (u % 2 ^ 64) = l.take n then (unzig (u % 2 ^ 64), n) else (0, 0)
theorem zig_unzig (w : Nat) : zig (unzig w) = w := by
  unfold zig unzig
  split <;> split <;> omega
theorem unzig_zig (n : Int) : unzig (zig n) = n := by
  unfold zig unzig
  split <;> split <;> omega
theorem unzig_rng {w : Nat} (h : w < 2 ^ 64) : -9223372036854775808 ≤ unzig w ∧ unzig w ≤ 9223372036854775807 := by
  unfold unzig; split <;> omega
/-- the next seven bits -/
theorem or_bits {x i b : Nat} (hi : i < 10) (hx : x < 128 ^ i) : (x % 2 ^ 64) ||| ((b % 128) * 2 ^ (7 * i) % 2 ^ 64) = (x + 128 ^ i * (b % 128)) % 2 ^ 64 := by
  have hp : (128 : Nat) ^ i = 2 ^ (7 * i) := by rw [Nat.pow_mul]
  rw [hp] at hx ⊢
  have hx2 : x % 2 ^ 64 = x := Nat.mod_eq_of_lt (Nat.lt_of_lt_of_le hx (Nat.pow_le_pow_right (by omega) (by omega)))
  have h64 : (2 : Nat) ^ 64 = 2 ^ (7 * i) * 2 ^ (64 - 7 * i) := by rw [← Nat.pow_add]; congr 1; omega
  rw [hx2, Nat.mul_comm (b % 128), h64, Nat.mul_mod_mul_left, Nat.or_comm, ← Nat.two_pow_add_eq_or_of_lt hx, Nat.add_comm x, Nat.add_comm (2 ^ (7 * i) * (b % 128)) x]
  rw [Nat.mod_mul, Nat.add_mul_mod_self_left, Nat.mod_eq_of_lt hx, Nat.add_mul_div_left _ _ (Nat.two_pow_pos _), Nat.div_eq_of_lt hx, Nat.zero_add, Nat.add_comm]
theorem and127 : ∀ x, x < 256 → x &&& 127 = x % 128 := by decide +kernel
theorem step_eq {x i b : Nat} (hi : i < 10) (hb : b < 256) (hx : x < 128 ^ i) : IntKind.u64.wrap
      ↑((((x : Nat) : Int) % 18446744073709551616 % 2 ^ IntKind.u64.bits).toNat |||
          (IntKind.u64.wrap
                (IntKind.u64.wrap (IntKind.u8.wrap ↑(b % 2 ^ IntKind.u8.bits &&& 127 % 2 ^ IntKind.u8.bits)) *
                  2 ^ min (7 * (i : Int)).toNat IntKind.u64.bits) %
              2 ^ IntKind.u64.bits).toNat) = (((x + 128 ^ i * (b % 128)) % 2 ^ 64 : Nat) : Int) := by
  have e3 : IntKind.u64.bits = 64 := rfl
  have e4 : IntKind.u8.bits = 8 := rfl
  have e5 : min (7 * (i : Int)).toNat 64 = 7 * i := by omega
  have e6 : b % 2 ^ 8 &&& 127 % 2 ^ 8 = b % 128 := by rw [show (127 % 2 ^ 8 : Nat) = 127 from rfl, Nat.mod_eq_of_lt (show b < 2 ^ 8 by omega), and127 b hb]
  rw [e3, e4, e5, e6, wrap8', wrap64u, wrap64u, wrap64u]
  have h1 : ((x : Int) % 18446744073709551616 % 2 ^ 64).toNat = x % 2 ^ 64 := by omega
  have h2 : (((b % 128 : Nat) : Int) % 256 % 2 ^ 64 * 2 ^ (7 * i) % 2 ^ 64 % 2 ^ 64).toNat = (b % 128) * 2 ^ (7 * i) % 2 ^ 64 := by
    have : ((b % 128 : Nat) : Int) % 256 % 2 ^ 64 = ((b % 128 : Nat) : Int) := by omega
    rw [this]
    have h3 : ((b % 128 : Nat) : Int) * 2 ^ (7 * i) = ((b % 128 * 2 ^ (7 * i) : Nat) : Int) := by push_cast; rfl
    rw [h3]; omega
  rw [h1, h2, or_bits hi hx]
  omega
theorem unzig_eq {w : Nat} (hw : w < 2 ^ 64) : IntKind.i64.wrap
      ↑((IntKind.i64.wrap (((w : Nat) : Int).fdiv (2 ^ min 1 IntKind.u64.bits)) % 2 ^ IntKind.i64.bits).toNat ^^^
          (IntKind.i64.wrap
                (-IntKind.i64.wrap
                    (IntKind.u64.wrap ↑((((w : Nat) : Int) % 2 ^ IntKind.u64.bits).toNat &&& 1 % 2 ^ IntKind.u64.bits))) %
              2 ^ IntKind.i64.bits).toNat) = unzig w := by
  have e1 : min 1 IntKind.u64.bits = 1 := by decide
  have e3 : IntKind.u64.bits = 64 := rfl
  have e4 : IntKind.i64.bits = 64 := rfl
  have e5 : (1 : Nat) % 2 ^ 64 = 1 := by decide
  rw [e1, e3, e4, e5, Int.fdiv_eq_ediv_of_nonneg _ (by decide), Nat.and_one_is_mod]
  have h1 : ((w : Int) % 2 ^ 64).toNat = w := by omega
  rw [h1, wrap64u, wrapI (n := (w : Int) / 2 ^ 1) (by omega)]
  have h2 : ((w : Int) / 2 ^ 1 % 2 ^ 64).toNat = w / 2 := by omega
  rw [h2]
  unfold unzig
  by_cases h0 : w % 2 = 0
  · rw [if_pos h0, h0]
    have h3 : (IntKind.i64.wrap (-IntKind.i64.wrap (((0 : Nat) : Int) % 2 ^ 64)) % 2 ^ 64).toNat = 0 := by decide
    rw [h3, Nat.xor_zero, wrapI (by omega)]
  · rw [if_neg h0, show w % 2 = 1 by omega]
    have h3 : (IntKind.i64.wrap (-IntKind.i64.wrap (((1 : Nat) : Int) % 2 ^ 64)) % 2 ^ 64).toNat = 2 ^ 64 - 1 := by decide
    rw [h3, xor_ones (by omega)]
    simp only [IntKind.wrap, IntKind.bits, IntKind.signed]
    simp
    omega
theorem veq_subV {k i j n c : Nat} {a : Option Addr} : veq (subV k i j (.slice a n c)) (subV k i j (.slice a n c)) = true := by
  cases a <;> simp [subV, veq, veq1]
theorem list_take_prefix {l : List Nat} {i : Nat} : (l.drop (0 * 1)).take ((i - 0) * 1) = l.take i := by simp
theorem bvs_take {l : List Nat} {i : Nat} : (bvs l).take i = bvs (l.take i) := by simp [bvs]
theorem bvs_drop {l : List Nat} {i : Nat} : (bvs l).drop i = bvs (l.drop i) := by simp [bvs]
/-- b[:j] -/
theorem _root_.Go.AM.Row.upto {a : Option Addr} {c : Nat} {l : List Nat} (hr : BRow h (.slice a l.length c) l) {j : Nat} (hj : j ≤ l.length) :
    sliceV h 5 1 (.slice a l.length c) none (some (.int .i64 (j : Nat))) none = some (subV 1 0 j (.slice a l.length c)) ∧ BRow h (subV 1 0 j (.slice a l.length c)) (l.take j) := by
  obtain ⟨h1, h2⟩ := hr.slice (i := 0) (j := j) (lo := none) (hi := some (.int .i64 (j : Nat))) (.inl ⟨rfl, rfl⟩) (.inr rfl) (by omega) hj
  refine ⟨h1, ?_⟩
  rw [Nat.sub_zero, Nat.zero_mul, List.drop_zero, Nat.mul_one, bvs_take] at h2
  show Row h 5 1 _ (l.take j).length _
  rw [List.length_take, Nat.min_eq_left hj]; exact h2
/-- b[i:] -/
theorem _root_.Go.AM.Row.from {a : Option Addr} {c : Nat} {l : List Nat} (hr : BRow h (.slice a l.length c) l) {i : Nat} (hi : i ≤ l.length) :
    sliceV h 5 1 (.slice a l.length c) (some (.int .i64 (i : Nat))) none none = some (subV 1 i l.length (.slice a l.length c)) ∧ BRow h (subV 1 i l.length (.slice a l.length c)) (l.drop i) := by
  obtain ⟨h1, h2⟩ := hr.slice (i := i) (j := l.length) (lo := some (.int .i64 (i : Nat))) (hi := none) (.inr rfl) (.inl ⟨rfl, rfl⟩) hi (Nat.le_refl _)
  refine ⟨h1, ?_⟩
  rw [Nat.mul_one, Nat.mul_one, List.take_of_length_le (by simp), bvs_drop] at h2
  show Row h 5 1 _ (l.drop i).length _
  rw [List.length_drop]; exact h2
theorem readNum_runs {v : Value} {l : List Nat} (hr : BRow h v l) (hl : l.length ≤ 100000) (hby : ∀ b ∈ l, b < 256) : Runs X ⟨f, []⟩ 17 [v] h (.tuple #[.int .i64 (readNum l).1, .int .i64 (readNum l).2]) h := by
  refine Runs_of rfl f17_is ?_
  simp only [f17r0, f17r1, f17r2, f17r3, f17r4, f17r5, f17r6, f17r7, f17r8, f17r9, f17r10, f17l11, f17r12, f17b]
  obtain ⟨a, c, rfl⟩ := hr.form
  repeat (first
 | refine za ?_ | refine zb ?_ | refine zc ?_ | refine zd ?_ | refine ze ?_ | refine zf ?_ | refine zg ?_ | refine zh ?_ | (refine zi ?_; try refine RgD_plain rfl ?_) | refine w_drawn rfl ?_ | refine zj ?_ | refine zl ?_
 | ((first | apply zs | (apply zt; (focus rfl)) | (apply zu; (focus rfl)) | (apply zv; (focus rfl)) | apply zx | apply zy | apply zB | apply zC | apply zD | apply zE | apply zF); (focus ((conv => lhs; simp); first | done | rfl)); first | apply zk | (apply zn; (focus rfl); try (focus (first | rfl | (simp; done)))) | (apply zo; (focus rfl)) | apply gv_u | apply gv_tt | apply gv_ff | apply gv_ft | apply gv_tf))
  refine w_loop (A := Nat) (fun i env h' => i ≤ 10 ∧ i ≤ l.length ∧ env 0 = .slice a l.length c ∧ env 4 = .int .u64 ((valB (l.take i) % 2 ^ 64 : Nat) : Int) ∧ env 5 = .int .i64 i ∧ h' = h ∧ getU 10 l = (getU (10 - i) (l.drop i)).map (fun p => (valB (l.take i) + 128 ^ i * p.1, i + p.2))) (fun i => 10 - i) (a0 := 0) ⟨by omega, by omega, by simp, by simp [valB], by simp, rfl, by simp [valB]⟩ ?_
  rintro i env h' ⟨hi, hil, e0, e4, e5, rfl, hs⟩
  by_cases hlt : i < l.length
  · by_cases h10 : i < 10
    · obtain ⟨b, hx, hd⟩ := elem_at hlt
      obtain ⟨bl, o, cs, rfl, hb, hc, hga⟩ := hr.bytes (by omega)
      have hg := hga i b hx
      have hb256 : b < 256 := hby b (List.mem_of_getElem? hx)
      have w1 := wadd (i := i) (by omega)
      have h10' : (i : Int) < 10 := by omega
      have w7 : IntKind.i64.wrap (7 * (i : Int)) = ((7 * i : Nat) : Int) := by rw [wrapI (by omega)]; omega
      repeat (first
 | refine za ?_ | refine zb ?_ | refine zc ?_ | refine zd ?_ | refine ze ?_ | refine zf ?_ | refine zg ?_ | refine zh ?_ | (refine zi ?_; try refine RgD_plain rfl ?_) | refine w_drawn rfl ?_ | refine zj ?_ | refine zl ?_
 | ((first | apply zs | (apply zt; (focus rfl)) | (apply zu; (focus rfl)) | (apply zv; (focus rfl)) | apply zx | apply zy | apply zB | apply zC | apply zD | apply zE | apply zF); (focus ((conv => lhs; simp [e0, e4, e5, hlt, h10', hc, hg, w1, w7]); first | done | rfl)); first | apply zk | (apply zn; (focus rfl); try (focus (first | rfl | (simp [e0, e4, e5, hlt, h10', hc, hg, w1, w7]; done)))) | (apply zo; (focus rfl)) | apply gv_u | apply gv_tt | apply gv_ff | apply gv_ft | apply gv_tf))
      have hta : l.take (i + 1) = l.take i ++ [b] := by rw [List.take_add_one, hx]; rfl
      have hlen : (l.take i).length = i := by rw [List.length_take]; omega
      have hvb : valB (l.take (i + 1)) = valB (l.take i) + 128 ^ i * (b % 128) := by rw [hta, valB_append, hlen]
      generalize hE : IntKind.u64.wrap (((_ : Nat) ||| (_ : Nat) : Nat) : Int) = E
      rw [step_eq h10 hb256 (by have := valB_lt (l.take i); rw [hlen] at this; exact this), ← hvb] at hE
      by_cases hb128 : b < 128
      · have hb' : decide ((128 : Int) ≤ b) = false := by simp; omega
        repeat (first
 | refine za ?_ | refine zb ?_ | refine zc ?_ | refine zd ?_ | refine ze ?_ | refine zf ?_ | refine zg ?_ | refine zh ?_ | (refine zi ?_; try refine RgD_plain rfl ?_) | refine w_drawn rfl ?_ | refine zj ?_ | refine zl ?_
 | ((first | apply zs | (apply zt; (focus rfl)) | (apply zu; (focus rfl)) | (apply zv; (focus rfl)) | apply zx | apply zy | apply zB | apply zC | apply zD | apply zE | apply zF); (focus ((conv => lhs; simp [e0, e4, e5, hlt, h10', hc, hg, w1, w7, hb']); first | done | rfl)); first | apply zk | (apply zn; (focus rfl); try (focus (first | rfl | (simp [e0, e4, e5, hlt, h10', hc, hg, w1, w7, hb']; done)))) | (apply zo; (focus rfl)) | apply gv_u | apply gv_tt | apply gv_ff | apply gv_ft | apply gv_tf))
        generalize hN : IntKind.i64.wrap (((_ : Nat) ^^^ (_ : Nat) : Nat) : Int) = N
        have hw : valB (l.take (i + 1)) % 2 ^ 64 < 2 ^ 64 := Nat.mod_lt _ (by decide)
        rw [← hE, unzig_eq hw] at hN
        have hgu : getU 10 l = some (valB (l.take (i + 1)), i + 1) := by
          rw [hs, hd, show 10 - i = 10 - (i + 1) + 1 by omega, getU, if_pos hb128]
          simp only [Option.map_some, hvb, Nat.mod_eq_of_lt hb128]
        obtain ⟨s1, s2⟩ := hr.upto (j := i + 1) (by omega)
        push_cast at s1
        repeat (first
 | refine za ?_ | refine zb ?_ | refine zc ?_ | refine zd ?_ | refine ze ?_ | refine zf ?_ | refine zg ?_ | refine zh ?_ | (refine zi ?_; try refine RgD_plain rfl ?_) | refine w_drawn rfl ?_ | refine zj ?_ | refine zl ?_
 | ((first | apply zs | (apply zt; (focus rfl)) | (apply zu; (focus rfl)) | (apply zv; (focus rfl)) | apply zx | apply zy | apply zB | apply zC | apply zD | apply zE | apply zF); (focus ((conv => lhs; simp [e0, e5, w1, s1]); first | done | rfl)); first | apply zk | (apply zn; (focus rfl); try (focus (first | rfl | (simp [e0, e5, w1, s1]; done)))) | (apply zo; (focus rfl)) | apply gv_u | apply gv_tt | apply gv_ff | apply gv_ft | apply gv_tf))
        rw [← hN]
        (apply zW; (focus ((conv => lhs; simp); first | done | rfl)); (focus exact num_runs (l := []) (Nat.le_refl _) (.inl ⟨rfl, rfl⟩) rfl (by simp) (unzig_rng hw))); intro v' h' q
        rw [zig_unzig, List.nil_append] at q
        obtain ⟨s3, s4⟩ := (hr.keepB q.keep (.inl rfl)).upto (j := i + 1) (by omega)
        push_cast at s3
        have hlw := numB_len 10 (valB (l.take (i + 1)) % 2 ^ 64) (by omega) (by omega)
        have hbr : BRow h' v' (numB (valB (l.take (i + 1)) % 2 ^ 64)) := q.buf.row (by omega) (by rw [Nat.mul_one, List.length_map])
        refine w_still (by simp [still, snapped, e0, e5, w1, s3, subV, veq, veq1]) ?_
        by_cases heq : numB (valB (l.take (i + 1)) % 2 ^ 64) = l.take (i + 1)
        · have e : readNum l = (unzig (valB (l.take (i + 1)) % 2 ^ 64), i + 1) := by rw [readNum, hgu]; simp only; rw [if_pos heq]
          have hd' : decide (numB (valB (l.take (i + 1)) % 2 ^ 64) = l.take (i + 1)) = true := decide_eq_true heq
          repeat (first
 | refine za ?_ | refine zb ?_ | refine zc ?_ | refine zd ?_ | refine ze ?_ | refine zf ?_ | refine zg ?_ | refine zh ?_ | (refine zi ?_; try refine RgD_plain rfl ?_) | refine w_drawn rfl ?_ | refine zj ?_ | refine zl ?_
 | ((first | apply zs | (apply zt; (focus rfl)) | (apply zu; (focus rfl)) | (apply zv; (focus rfl)) | apply zw | apply zx | apply zy | apply zB | apply zC | apply zD | apply zE | apply zF); (focus ((conv => lhs; simp [w1, e0, e5, s3, veq_subV, hd']); first | done | rfl)); first | apply zk | (apply zn; (focus rfl); try (focus (first | rfl | (simp [w1, e0, e5, s3, veq_subV, hd']; done)))) | (apply zo; (focus rfl)) | apply gv_u | apply gv_tt | apply gv_ff | apply gv_ft | apply gv_tf | exact (equal_runs hbr s4 (by omega) (by simp; omega))))
          rw [e]; push_cast; rfl
        · have e : readNum l = (0, 0) := by rw [readNum, hgu]; simp only; rw [if_neg heq]
          have hd' : decide (numB (valB (l.take (i + 1)) % 2 ^ 64) = l.take (i + 1)) = false := decide_eq_false heq
          rw [e]
          repeat (first
 | refine za ?_ | refine zb ?_ | refine zc ?_ | refine zd ?_ | refine ze ?_ | refine zf ?_ | refine zg ?_ | refine zh ?_ | (refine zi ?_; try refine RgD_plain rfl ?_) | refine w_drawn rfl ?_ | refine zj ?_ | refine zl ?_
 | ((first | apply zs | (apply zt; (focus rfl)) | (apply zu; (focus rfl)) | (apply zv; (focus rfl)) | apply zw | apply zx | apply zy | apply zB | apply zC | apply zD | apply zE | apply zF); (focus ((conv => lhs; simp [w1, e0, e5, s3, veq_subV, hd']); first | done | rfl)); first | apply zk | (apply zn; (focus rfl); try (focus (first | rfl | (simp [w1, e0, e5, s3, veq_subV, hd']; done)))) | (apply zo; (focus rfl)) | apply gv_u | apply gv_tt | apply gv_ff | apply gv_ft | apply gv_tf | exact (equal_runs hbr s4 (by omega) (by simp; omega))))
      · have hb' : decide ((128 : Int) ≤ b) = true := by simp; omega
        repeat (first
 | refine za ?_ | refine zb ?_ | refine zc ?_ | refine zd ?_ | refine ze ?_ | refine zf ?_ | refine zg ?_ | refine zh ?_ | (refine zi ?_; try refine RgD_plain rfl ?_) | refine w_drawn rfl ?_ | refine zj ?_ | refine zl ?_
 | ((first | apply zs | (apply zt; (focus rfl)) | (apply zu; (focus rfl)) | (apply zv; (focus rfl)) | apply zx | apply zy | apply zB | apply zC | apply zD | apply zE | apply zF); (focus ((conv => lhs; simp [e0, e4, e5, hlt, h10', hc, hg, w1, w7, hb']); first | done | rfl)); first | apply zk | (apply zn; (focus rfl); try (focus (first | rfl | (simp [e0, e4, e5, hlt, h10', hc, hg, w1, w7, hb']; done)))) | (apply zo; (focus rfl)) | apply gv_u | apply gv_tt | apply gv_ff | apply gv_ft | apply gv_tf))
        refine ⟨i + 1, ⟨by omega, by omega, by simp [e0], by simp [hE], by simp, rfl, ?_⟩, by omega⟩
        rw [hs, hd, show 10 - i = 10 - (i + 1) + 1 by omega, getU, if_neg hb128, Option.map_map]
        congr 1
        funext p
        simp only [Function.comp, hvb, Prod.mk.injEq]
        refine ⟨?_, by omega⟩
        rw [Nat.mul_add, Nat.pow_succ]; ac_rfl
    · have e : readNum l = (0, 0) := by
        rw [readNum, hs, show 10 - i = 0 by omega]; rfl
      have h10' : ¬ (i : Int) < 10 := by omega
      rw [e]
      repeat (first
 | refine za ?_ | refine zb ?_ | refine zc ?_ | refine zd ?_ | refine ze ?_ | refine zf ?_ | refine zg ?_ | refine zh ?_ | (refine zi ?_; try refine RgD_plain rfl ?_) | refine w_drawn rfl ?_ | refine zj ?_ | refine zl ?_
 | ((first | apply zs | (apply zt; (focus rfl)) | (apply zu; (focus rfl)) | (apply zv; (focus rfl)) | apply zx | apply zy | apply zB | apply zC | apply zD | apply zE | apply zF); (focus ((conv => lhs; simp [e0, e4, e5, hlt, h10']); first | done | rfl)); first | apply zk | (apply zn; (focus rfl); try (focus (first | rfl | (simp [e0, e4, e5, hlt, h10']; done)))) | (apply zo; (focus rfl)) | apply gv_u | apply gv_tt | apply gv_ff | apply gv_ft | apply gv_tf))
  · have e : readNum l = (0, 0) := by
      rw [readNum, hs, List.drop_eq_nil_of_le (by omega)]
      have : getU (10 - i) [] = none := by cases 10 - i <;> rfl
      rw [this]; rfl
    rw [e]
    repeat (first
 | refine za ?_ | refine zb ?_ | refine zc ?_ | refine zd ?_ | refine ze ?_ | refine zf ?_ | refine zg ?_ | refine zh ?_ | (refine zi ?_; try refine RgD_plain rfl ?_) | refine w_drawn rfl ?_ | refine zj ?_ | refine zl ?_
 | ((first | apply zs | (apply zt; (focus rfl)) | (apply zu; (focus rfl)) | (apply zv; (focus rfl)) | apply zx | apply zy | apply zB | apply zC | apply zD | apply zE | apply zF); (focus ((conv => lhs; simp [e0, e4, e5, hlt]); first | done | rfl)); first | apply zk | (apply zn; (focus rfl); try (focus (first | rfl | (simp [e0, e4, e5, hlt]; done)))) | (apply zo; (focus rfl)) | apply gv_u | apply gv_tt | apply gv_ff | apply gv_ft | apply gv_tf))
end Go.Proofs.YtmjaanhphkbkeaaGreat
end

section
namespace Go.Proofs.YtmjaanhphkbkeaaGreat
open Go.AM
set_option linter.unusedSimpArgs false
set_option linter.unusedVariables false
variable {f : Nat} {h : Heap}
def readCut : List Nat → (Int × Int) × Nat
  | [] => ((0, 0), 0)
  | b :: r => if b = 0 then ((-1, 0), 1) else if b = 2 then ((1, 0), 1) else if b = 1 ∧ (readNum r).2 ≠ 0 ∧ rightC (0, (readNum r).1) = true then ((0, (readNum r).1), 1 + (readNum r).2) else ((0, 0), 0)
theorem getU_len : ∀ (k : Nat) (l : List Nat) (u n : Nat), getU k l = some (u, n) → n ≤ l.length ∧ n ≤ k ∧ 0 < n
  | 0, l, u, n, h => by simp [getU] at h
  | k + 1, [], u, n, h => by simp [getU] at h
  | k + 1, b :: r, u, n, h => by
    rw [getU] at h
    split at h
    · cases h; simp
    · obtain ⟨⟨u', n'⟩, h1, h2⟩ := Option.map_eq_some_iff.1 h
      cases h2
      have := getU_len k r u' n' h1
      simp; omega
theorem readNum_len (l : List Nat) : (readNum l).2 ≤ l.length ∧ (readNum l).2 ≤ 10 := by
  unfold readNum
  split
  · simp
  · rename_i u n e
    have := getU_len _ _ _ _ e
    split
    · simp; omega
    · simp
theorem readNum_rng (l : List Nat) : -9223372036854775808 ≤ (readNum l).1 ∧ (readNum l).1 ≤ 9223372036854775807 := by
  unfold readNum
  split
  · simp
  · split
    · exact unzig_rng (Nat.mod_lt _ (by decide))
    · simp
theorem readCut_len (l : List Nat) : (readCut l).2 ≤ l.length ∧ (readCut l).2 ≤ 11 := by
  cases l with
  | nil => simp [readCut]
  | cons b r =>
    have := readNum_len r
    simp only [readCut]
    repeat' split
    all_goals simp
    all_goals omega
theorem readCut_runs {v : Value} {l : List Nat} (hr : BRow h v l) (hl : l.length ≤ 100000) (hby : ∀ b ∈ l, b < 256) : Runs X ⟨f, []⟩ 70 [v] h (.tuple #[.agg #[.int .i64 (readCut l).1.1, .int .i64 (readCut l).1.2], .int .i64 (readCut l).2]) h := by
  refine Runs_of rfl f70_is ?_
  simp only [f70r0, f70r1, f70r2, f70r3, f70r4, f70r5, f70r6, f70r7, f70r8, f70r9, f70r10, f70r11, f70b]
  obtain ⟨a, c, rfl⟩ := hr.form
  cases l with
  | nil =>
    repeat (first
 | refine za ?_ | refine zb ?_ | refine zc ?_ | refine zd ?_ | refine ze ?_ | refine zf ?_ | refine zg ?_ | refine zh ?_ | (refine zi ?_; try refine RgD_plain rfl ?_) | refine w_drawn rfl ?_ | refine zj ?_ | refine zl ?_
 | ((first | apply zs | (apply zt; (focus rfl)) | (apply zu; (focus rfl)) | (apply zv; (focus rfl)) | apply zx | apply zy | apply zB | apply zC | apply zD | apply zE | apply zF); (focus ((conv => lhs; simp); first | done | rfl)); first | apply zk | (apply zn; (focus rfl); try (focus (first | rfl | (simp; done)))) | (apply zo; (focus rfl)) | apply gv_u | apply gv_tt | apply gv_ff | apply gv_ft | apply gv_tf))
  | cons b r =>
    obtain ⟨bl, o, cs, rfl, hb, hc, hga⟩ := hr.bytes (by simp)
    have hg : cs[o]? = some (.int .u8 b) := hga 0 b rfl
    obtain ⟨s1, s2⟩ := hr.from (i := 1) (by simp)
    simp only [List.drop_one, List.tail_cons] at s2
    have n1 : ¬ bl = h.size := by omega
    have n2 : ¬ bl = h.size + 1 := by omega
    have hp : (0 : Int) < (r.length : Int) + 1 := by omega
    have hz : ¬ (r.length : Int) + 1 = 0 := by omega
    have hz' : ((r.length : Int) + 1 == 0) = false := by simp; omega
    have s1' := s1
    simp only [List.length_cons, Int.natCast_one] at s1'
    push_cast at s1'
    have hrl := readNum_len r
    have hln : r.length ≤ 100000 := by simp at hl; omega
    by_cases b0 : b = 0
    · have e : readCut (b :: r) = ((-1, 0), 1) := by simp [readCut, b0]
      have t0 : ((b : Int) == 0) = true := by simp [b0]
      rw [e]
      repeat (first
 | refine za ?_ | refine zb ?_ | refine zc ?_ | refine zd ?_ | refine ze ?_ | refine zf ?_ | refine zg ?_ | refine zh ?_ | (refine zi ?_; try refine RgD_plain rfl ?_) | refine w_drawn rfl ?_ | refine zj ?_ | refine zl ?_
 | ((first | apply zs | (apply zt; (focus rfl)) | (apply zu; (focus rfl)) | (apply zv; (focus rfl)) | apply zw | apply zx | apply zy | apply zB | apply zC | apply zD | apply zE | apply zF); (focus ((conv => lhs; simp [hp, hz', hc, n1, n2, hg, t0]); first | done | rfl)); first | apply zk | (apply zn; (focus rfl); try (focus (first | rfl | (simp [hp, hz', hc, n1, n2, hg, t0]; done)))) | (apply zo; (focus rfl)) | apply gv_u | apply gv_tt | apply gv_ff | apply gv_ft | apply gv_tf | exact first_runs))
    · have t0 : ((b : Int) == 0) = false := by simp; omega
      by_cases b2 : b = 2
      · have e : readCut (b :: r) = ((1, 0), 1) := by simp [readCut, b2]
        have t2 : ((b : Int) == 2) = true := by simp [b2]
        rw [e]
        repeat (first
 | refine za ?_ | refine zb ?_ | refine zc ?_ | refine zd ?_ | refine ze ?_ | refine zf ?_ | refine zg ?_ | refine zh ?_ | (refine zi ?_; try refine RgD_plain rfl ?_) | refine w_drawn rfl ?_ | refine zj ?_ | refine zl ?_
 | ((first | apply zs | (apply zt; (focus rfl)) | (apply zu; (focus rfl)) | (apply zv; (focus rfl)) | apply zw | apply zx | apply zy | apply zB | apply zC | apply zD | apply zE | apply zF); (focus ((conv => lhs; simp [hp, hz', hc, n1, n2, hg, t0, t2]); first | done | rfl)); first | apply zk | (apply zn; (focus rfl); try (focus (first | rfl | (simp [hp, hz', hc, n1, n2, hg, t0, t2]; done)))) | (apply zo; (focus rfl)) | apply gv_u | apply gv_tt | apply gv_ff | apply gv_ft | apply gv_tf | exact last_runs))
      · have t2 : ((b : Int) == 2) = false := by simp; omega
        have hrn := fun (h' : Heap) (hk : KeepB h h' none) => readNum_runs (f := h.size) (s2.keepB hk (.inl rfl)) hln (fun x hx => hby x (by simp [hx]))
        have hk1 : sliceV (h.push (.cells [.int .i64 0, .int .i64 0] 48)) 5 1 (.slice (some ⟨bl, o, none⟩) (r.length + 1) c) (some (.int .i64 1)) none none = some (subV 1 1 (r.length + 1) (.slice (some ⟨bl, o, none⟩) (r.length + 1) c)) := by
          have := ((hr.push (.cells [.int .i64 0, .int .i64 0] 48)).from (i := 1) (by simp)).1
          simpa using this
        by_cases hok : b = 1 ∧ (readNum r).2 ≠ 0 ∧ rightC (0, (readNum r).1) = true
        · have e : readCut (b :: r) = ((0, (readNum r).1), 1 + (readNum r).2) := by rw [readCut, if_neg b0, if_neg b2, if_pos hok]
          have t1 : ((b : Int) != 1) = false := by simp; omega
          have t3 : (((readNum r).2 : Int) == 0) = false := by simp; omega
          have w1 : IntKind.i64.wrap (1 + ((readNum r).2 : Int)) = 1 + ((readNum r).2 : Int) := wrapI (by omega)
          have t4 := hok.2.2
          rw [e]
          repeat (first
 | refine za ?_ | refine zb ?_ | refine zc ?_ | refine zd ?_ | refine ze ?_ | refine zf ?_ | refine zg ?_ | refine zh ?_ | (refine zi ?_; try refine RgD_plain rfl ?_) | refine w_drawn rfl ?_ | refine zj ?_ | refine zl ?_
 | ((first | apply zs | (apply zt; (focus rfl)) | (apply zu; (focus rfl)) | (apply zv; (focus rfl)) | apply zw | apply zx | apply zy | apply zB | apply zC | apply zD | apply zE | apply zF); (focus ((conv => lhs; simp [hp, hz', hc, n1, n2, hg, t0, t2, hk1, t1, t3, t4, w1]); first | done | rfl)); first | apply zk | (apply zn; (focus rfl); try (focus (first | rfl | (simp [hp, hz', hc, n1, n2, hg, t0, t2, hk1, t1, t3, t4, w1]; done)))) | (apply zo; (focus rfl)) | apply gv_u | apply gv_tt | apply gv_ff | apply gv_ft | apply gv_tf | exact (hrn _ ((KeepB.refl _ _).push _)) | exact rightC_runs))
        · have e : readCut (b :: r) = ((0, 0), 0) := by rw [readCut, if_neg b0, if_neg b2, if_neg hok]
          rw [e]
          by_cases b1 : b = 1
          · have t1 : ((b : Int) != 1) = false := by simp; omega
            by_cases r0 : (readNum r).2 = 0
            · have t3 : (((readNum r).2 : Int) == 0) = true := by simp; omega
              repeat (first
 | refine za ?_ | refine zb ?_ | refine zc ?_ | refine zd ?_ | refine ze ?_ | refine zf ?_ | refine zg ?_ | refine zh ?_ | (refine zi ?_; try refine RgD_plain rfl ?_) | refine w_drawn rfl ?_ | refine zj ?_ | refine zl ?_
 | ((first | apply zs | (apply zt; (focus rfl)) | (apply zu; (focus rfl)) | (apply zv; (focus rfl)) | apply zw | apply zx | apply zy | apply zB | apply zC | apply zD | apply zE | apply zF); (focus ((conv => lhs; simp [hp, hz', hc, n1, n2, hg, t0, t2, hk1, t1, t3]); first | done | rfl)); first | apply zk | (apply zn; (focus rfl); try (focus (first | rfl | (simp [hp, hz', hc, n1, n2, hg, t0, t2, hk1, t1, t3]; done)))) | (apply zo; (focus rfl)) | apply gv_u | apply gv_tt | apply gv_ff | apply gv_ft | apply gv_tf | exact (hrn _ ((KeepB.refl _ _).push _)) | exact rightC_runs))
            · have t3 : (((readNum r).2 : Int) == 0) = false := by simp; omega
              have t4 : rightC (0, (readNum r).1) = false := by
                cases q : rightC (0, (readNum r).1) with
                | false => rfl
                | true => exact absurd ⟨b1, r0, q⟩ hok
              repeat (first
 | refine za ?_ | refine zb ?_ | refine zc ?_ | refine zd ?_ | refine ze ?_ | refine zf ?_ | refine zg ?_ | refine zh ?_ | (refine zi ?_; try refine RgD_plain rfl ?_) | refine w_drawn rfl ?_ | refine zj ?_ | refine zl ?_
 | ((first | apply zs | (apply zt; (focus rfl)) | (apply zu; (focus rfl)) | (apply zv; (focus rfl)) | apply zw | apply zx | apply zy | apply zB | apply zC | apply zD | apply zE | apply zF); (focus ((conv => lhs; simp [hp, hz', hc, n1, n2, hg, t0, t2, hk1, t1, t3, t4]); first | done | rfl)); first | apply zk | (apply zn; (focus rfl); try (focus (first | rfl | (simp [hp, hz', hc, n1, n2, hg, t0, t2, hk1, t1, t3, t4]; done)))) | (apply zo; (focus rfl)) | apply gv_u | apply gv_tt | apply gv_ff | apply gv_ft | apply gv_tf | exact (hrn _ ((KeepB.refl _ _).push _)) | exact rightC_runs))
          · have t1 : ((b : Int) != 1) = true := by simp; omega
            repeat (first
 | refine za ?_ | refine zb ?_ | refine zc ?_ | refine zd ?_ | refine ze ?_ | refine zf ?_ | refine zg ?_ | refine zh ?_ | (refine zi ?_; try refine RgD_plain rfl ?_) | refine w_drawn rfl ?_ | refine zj ?_ | refine zl ?_
 | ((first | apply zs | (apply zt; (focus rfl)) | (apply zu; (focus rfl)) | (apply zv; (focus rfl)) | apply zw | apply zx | apply zy | apply zB | apply zC | apply zD | apply zE | apply zF); (focus ((conv => lhs; simp [hp, hz', hc, n1, n2, hg, t0, t2, hk1, t1]); first | done | rfl)); first | apply zk | (apply zn; (focus rfl); try (focus (first | rfl | (simp [hp, hz', hc, n1, n2, hg, t0, t2, hk1, t1]; done)))) | (apply zo; (focus rfl)) | apply gv_u | apply gv_tt | apply gv_ff | apply gv_ft | apply gv_tf | exact (hrn _ ((KeepB.refl _ _).push _)) | exact rightC_runs))
end Go.Proofs.YtmjaanhphkbkeaaGreat
end
