import Derived.Test.YtmjaanhphkbkeaaGreatCodeF
import Derived.Test.YtmjaanhphkbkeaaGreatAmG
import Derived.Test.YtmjaanhphkbkeaaGreatAmH
set_option linter.all false
section
namespace Go.Proofs.YtmjaanhphkbkeaaGreat
open Go.AM
set_option linter.unusedSimpArgs false
set_option linter.unusedVariables false
noncomputable def Xs (fl : FuncId → Flag) : Tab := { fn := fun g => cFn Tryz.prog (fl g) g, ext := fun g => if g = 5 then some sTrue else none, meth := cMeth Tryz.prog }
noncomputable abbrev X : Tab := Xs flS

def bv (b : Nat) : Value := .int .u8 b
/-- a number's bytes -/
def numB (u : Nat) : List Nat := if h : u < 128 then [u] else (u % 128 + 128) :: numB (u / 128)
termination_by u
decreasing_by omega

theorem or128 : ∀ x, x < 256 → x ||| 128 = x % 128 + 128 := by decide +kernel
theorem wrap8' (n : Int) : IntKind.u8.wrap n = n % 256 := by simp [IntKind.wrap, IntKind.bits, IntKind.signed]
theorem wrap8 (u : Nat) : IntKind.u8.wrap (u : Int) = ((u % 256 : Nat) : Int) := by
  simp [IntKind.wrap, IntKind.bits, IntKind.signed]
theorem byte_or (u : Nat) : IntKind.u8.wrap ↑((IntKind.u8.wrap ↑u % 2 ^ IntKind.u8.bits).toNat ||| 128 % 2 ^ IntKind.u8.bits) = ((u % 128 + 128 : Nat) : Int) := by
  have h1 : (IntKind.u8.wrap (u : Int) % 2 ^ IntKind.u8.bits).toNat = u % 256 := by
    rw [wrap8]; simp [IntKind.bits]; omega
  have h2 : 128 % 2 ^ IntKind.u8.bits = 128 := by decide
  rw [h1, h2, or128 _ (Nat.mod_lt _ (by omega)), wrap8]
  omega
theorem shr7 (u : Nat) : (u : Int).fdiv (2 ^ min 7 IntKind.u64.bits) = ((u / 128 : Nat) : Int) := by
  have : min 7 IntKind.u64.bits = 7 := by decide
  rw [this, Int.fdiv_eq_ediv_of_nonneg _ (by decide)]; omega

theorem num_loop {f : Nat} {h0 : Heap} {v0 : Value} {tot : List Value} {Q : AExit → Env → Heap → Prop} (hlen : tot.length ≤ 1000000)
    (K : ∀ env h v l u, u < 128 → env 0 = v → env 5 = .int .u64 (u : Nat) → Grow f 5 1 h0 h v0 v l → l ++ [bv u] = tot → Q (.exit 0) env h) :
    ∀ (env : Env) (h : Heap) (v : Value) (l : List Value) (u : Nat), u < 2 ^ 64 → env 0 = v → env 5 = .int .u64 (u : Nat) → Grow f 5 1 h0 h v0 v l → l ++ (numB u).map bv = tot → Ok X ⟨f, []⟩ (.loop f18l5) env h Q := by
  intro env h v l u hu e0 e5 g ht
  refine w_loop (A := Value × List Value × Nat) (fun a env h => a.2.2 < 2 ^ 64 ∧ env 0 = a.1 ∧ env 5 = .int .u64 (a.2.2 : Nat) ∧ Grow f 5 1 h0 h v0 a.1 a.2.1 ∧ a.2.1 ++ (numB a.2.2).map bv = tot) (fun a => a.2.2) (a0 := (v, l, u)) ⟨hu, e0, e5, g, ht⟩ ?_
  clear hu e0 e5 g ht
  rintro ⟨v, l, u⟩ env h ⟨hu, e0, e5, g, ht⟩
  simp only at hu e0 e5 g ht ⊢
  simp only [f18l5, f18r2, f18r3, f18r4]
  by_cases h128 : u < 128
  · have hd : ¬ (u : Int) ≥ 128 := by omega
    repeat (first
 | refine za ?_ | refine zb ?_ | refine zc ?_ | refine zd ?_ | refine ze ?_ | refine zf ?_ | refine zg ?_ | refine zh ?_ | (refine zi ?_; try refine RgD_plain rfl ?_) | refine w_drawn rfl ?_ | refine zj ?_ | refine zl ?_
 | ((first | apply zs | (apply zt; (focus rfl)) | (apply zu; (focus rfl)) | (apply zv; (focus rfl)) | apply zx | apply zy | apply zB | apply zC | apply zD | apply zE | apply zF); (focus ((conv => lhs; simp [e0, e5, hd]); first | done | rfl)); first | apply zk | (apply zn; (focus rfl); try (focus (first | rfl | (simp [e0, e5, hd]; done)))) | apply gv_u | apply gv_tt | apply gv_ff | apply gv_ft | apply gv_tf))
    simp only [thenQ_exit]
    refine K _ h v l u h128 (by simp [e0]) (by simp [e5]) g ?_
    rw [← ht, numB, dif_pos h128]; rfl
  · have hd : (u : Int) ≥ 128 := by omega
    have hlt : l.length ≤ 1000000 := by
      have := congrArg List.length ht
      simp at this; omega
    repeat (first
 | refine za ?_ | refine zb ?_ | refine zc ?_ | refine zd ?_ | refine ze ?_ | refine zf ?_ | refine zg ?_ | refine zh ?_ | (refine zi ?_; try refine RgD_plain rfl ?_) | refine w_drawn rfl ?_ | refine zj ?_ | refine zl ?_
 | ((first | apply zs | (apply zt; (focus rfl)) | (apply zu; (focus rfl)) | (apply zv; (focus rfl)) | apply zx | apply zy | apply zB | apply zC | apply zD | apply zE | apply zF); (focus ((conv => lhs; simp [e0, e5, hd]); first | done | rfl)); first | apply zk | (apply zn; (focus rfl); try (focus (first | rfl | (simp [e0, e5, hd]; done)))) | apply gv_u | apply gv_tt | apply gv_ff | apply gv_ft | apply gv_tf))
    obtain ⟨v', h', q1, q2⟩ := (g.push (.cells [.int .u8 (IntKind.u8.wrap ↑((IntKind.u8.wrap ↑u % 2 ^ IntKind.u8.bits).toNat ||| 128 % 2 ^ IntKind.u8.bits))] 5)).append (by_ := 1) (n := l.length) (m := 1) (x := .slice (some ⟨h.size, 0, none⟩) 1 1) (l2 := [.int .u8 (IntKind.u8.wrap ↑((IntKind.u8.wrap ↑u % 2 ^ IntKind.u8.bits).toNat ||| 128 % 2 ^ IntKind.u8.bits))])
      (by omega) (by simp [srcCells, grab]) (by omega) (by simp) rfl (by omega) (by omega) rfl
    refine w_mem (v := v') (h' := h') rfl (by simpa using q1) ?_
    repeat (first
 | refine za ?_ | refine zb ?_ | refine zc ?_ | refine zd ?_ | refine ze ?_ | refine zf ?_ | refine zg ?_ | refine zh ?_ | (refine zi ?_; try refine RgD_plain rfl ?_) | refine w_drawn rfl ?_ | refine zj ?_ | refine zl ?_
 | ((first | apply zs | (apply zt; (focus rfl)) | (apply zu; (focus rfl)) | (apply zv; (focus rfl)) | apply zx | apply zy | apply zB | apply zC | apply zD | apply zE | apply zF); (focus ((conv => lhs; simp [e0, e5, hd]); first | done | rfl)); first | apply zk | (apply zn; (focus rfl); try (focus (first | rfl | (simp [e0, e5, hd]; done)))) | apply gv_u | apply gv_tt | apply gv_ff | apply gv_ft | apply gv_tf))
    simp only [blockQ_normal, thenQ_normal]
    refine ⟨(v', l ++ [bv (u % 128 + 128)], u / 128), ⟨by simp only; omega, by simp, ?_, ?_, ?_⟩, by simp only; omega⟩
    · simp [shr7]
    · rw [byte_or] at q2; exact q2
    · rw [← ht]
      conv => rhs; rw [numB, dif_neg h128]
      simp

theorem xor_ones {x : Nat} (hx : x < 2 ^ 64) : x ^^^ (2 ^ 64 - 1) = 2 ^ 64 - 1 - x := by
  have h := BitVec.toNat_not (x := BitVec.ofNat 64 x)
  rw [← BitVec.xor_allOnes] at h
  simp only [BitVec.toNat_xor, BitVec.toNat_ofNat, BitVec.toNat_allOnes, Nat.mod_eq_of_lt hx] at h
  exact h
/-- the number that a number is written as -/
def zig (n : Int) : Nat := if 0 ≤ n then (2 * n).toNat else (-2 * n - 1).toNat
theorem wrap64u (n : Int) : IntKind.u64.wrap n = n % 2 ^ 64 := by simp [IntKind.wrap, IntKind.bits, IntKind.signed]
theorem zig_eq {n : Int} (hn : -9223372036854775808 ≤ n ∧ n ≤ 9223372036854775807) : IntKind.u64.wrap ↑((IntKind.u64.wrap (IntKind.u64.wrap n * 2 ^ min 1 IntKind.u64.bits) % 2 ^ IntKind.u64.bits).toNat ^^^
              (IntKind.u64.wrap (n.fdiv (2 ^ min 63 IntKind.i64.bits)) % 2 ^ IntKind.u64.bits).toNat) = ((zig n : Nat) : Int) := by
  have e1 : min 1 IntKind.u64.bits = 1 := by decide
  have e2 : min 63 IntKind.i64.bits = 63 := by decide
  have e3 : IntKind.u64.bits = 64 := rfl
  rw [e1, e2, e3, wrap64u, wrap64u, wrap64u, wrap64u, Int.fdiv_eq_ediv_of_nonneg _ (by decide)]
  unfold zig
  by_cases h0 : 0 ≤ n
  · rw [if_pos h0]
    have h1 : n / 2 ^ 63 = 0 := by omega
    rw [h1]
    have h2 : (n % 2 ^ 64 * 2 ^ 1 % 2 ^ 64 % 2 ^ 64).toNat = (2 * n).toNat := by omega
    rw [h2]
    simp only [Int.zero_emod, Int.toNat_zero, Nat.xor_zero]
    omega
  · rw [if_neg h0]
    have h1 : n / 2 ^ 63 = -1 := by omega
    rw [h1]
    have h2 : (n % 2 ^ 64 * 2 ^ 1 % 2 ^ 64 % 2 ^ 64).toNat = (2 ^ 64 + 2 * n).toNat := by omega
    have h3 : ((-1 : Int) % 2 ^ 64 % 2 ^ 64).toNat = 2 ^ 64 - 1 := by decide
    rw [h2, h3, xor_ones (by omega)]
    omega
theorem numB_len : ∀ (k u : Nat), u < 128 ^ k → 0 < k → (numB u).length ≤ k
  | 0, u, h, hk => by omega
  | k + 1, u, h, hk => by
    rw [numB]
    split
    · simp
    · rename_i h128
      have : 0 < k := by
        rcases Nat.eq_zero_or_pos k with q | q
        · subst q; simp at h; omega
        · exact q
      have := numB_len k (u / 128) (by rw [Nat.pow_succ] at h; exact Nat.div_lt_of_lt_mul (by rw [Nat.mul_comm]; exact h)) this
      simp; omega
theorem num_runs {f : Nat} {h : Heap} {v : Value} {l : List Value} {n : Int} (hfs : f ≤ h.size) (hb : Buf f h 5 1 v l) (h1 : l.all Go.AM.one = true) (hl : l.length ≤ 900000) (hn : -9223372036854775808 ≤ n ∧ n ≤ 9223372036854775807) :
    callR X ⟨f, []⟩ 18 [v, .int .i64 n] h fun v' h' => Grow f 5 1 h h' v v' (l ++ (numB (zig n)).map bv) := by
  refine callR_of rfl f18_is ?_
  simp only [f18r0, f18r1, f18r2, f18r3, f18r4, f18l5, f18r6, f18b]
  repeat (first
 | refine za ?_ | refine zb ?_ | refine zc ?_ | refine zd ?_ | refine ze ?_ | refine zf ?_ | refine zg ?_ | refine zh ?_ | (refine zi ?_; try refine RgD_plain rfl ?_) | refine w_drawn rfl ?_ | refine zj ?_ | refine zl ?_
 | ((first | apply zs | (apply zt; (focus rfl)) | (apply zu; (focus rfl)) | (apply zv; (focus rfl)) | apply zx | apply zy | apply zB | apply zC | apply zD | apply zE | apply zF); (focus ((conv => lhs; simp); first | done | rfl)); first | apply zk | (apply zn; (focus rfl); try (focus (first | rfl | (simp; done)))) | apply gv_u | apply gv_tt | apply gv_ff | apply gv_ft | apply gv_tf))
  have hz : IntKind.u64.wrap ↑((IntKind.u64.wrap (IntKind.u64.wrap n * 2 ^ min 1 IntKind.u64.bits) % 2 ^ IntKind.u64.bits).toNat ^^^
              (IntKind.u64.wrap (n.fdiv (2 ^ min 63 IntKind.i64.bits)) % 2 ^ IntKind.u64.bits).toNat) = ((zig n : Nat) : Int) := zig_eq hn
  rw [hz]
  refine num_loop (h0 := h) (v0 := v) (tot := l ++ (numB (zig n)).map bv) ?_ (fun env h' v' l' u hu e0 e5 g ht => ?_) _ _ v l (zig n) ?_ (by simp) (by simp) (Grow.refl hb hfs h1) rfl
  · have := numB_len 10 (zig n) (by unfold zig; split <;> omega) (by omega)
    simp; omega
  · try simp only [blockQ_exit_same, thenQ_normal]
    repeat (first
 | refine za ?_ | refine zb ?_ | refine zc ?_ | refine zd ?_ | refine ze ?_ | refine zf ?_ | refine zg ?_ | refine zh ?_ | (refine zi ?_; try refine RgD_plain rfl ?_) | refine w_drawn rfl ?_ | refine zj ?_ | refine zl ?_
 | ((first | apply zs | (apply zt; (focus rfl)) | (apply zu; (focus rfl)) | (apply zv; (focus rfl)) | apply zx | apply zy | apply zB | apply zC | apply zD | apply zE | apply zF); (focus ((conv => lhs; simp [e0, e5]); first | done | rfl)); first | apply zk | (apply zn; (focus rfl); try (focus (first | rfl | (simp [e0, e5]; done)))) | apply gv_u | apply gv_tt | apply gv_ff | apply gv_ft | apply gv_tf))
    have hw : IntKind.u8.wrap (u : Int) = ((u : Nat) : Int) := by rw [wrap8]; omega
    have hll : l'.length ≤ 1000000 := by
      have := congrArg List.length ht
      have := numB_len 10 (zig n) (by unfold zig; split <;> omega) (by omega)
      simp at *; omega
    rw [hw]
    obtain ⟨v2, h2, q1, q2⟩ := (g.push (.cells [.int .u8 u] 5)).append (by_ := 1) (n := l'.length) (m := 1) (x := .slice (some ⟨h'.size, 0, none⟩) 1 1) (l2 := [.int .u8 u])
      (by omega) (by simp [srcCells, grab]) (by omega) (by simp) rfl (by omega) (by omega) rfl
    refine w_mem (v := v2) (h' := h2) rfl (by simpa using q1) ?_
    repeat (first
 | refine za ?_ | refine zb ?_ | refine zc ?_ | refine zd ?_ | refine ze ?_ | refine zf ?_ | refine zg ?_ | refine zh ?_ | (refine zi ?_; try refine RgD_plain rfl ?_) | refine w_drawn rfl ?_ | refine zj ?_ | refine zl ?_
 | ((first | apply zs | (apply zt; (focus rfl)) | (apply zu; (focus rfl)) | (apply zv; (focus rfl)) | apply zx | apply zy | apply zB | apply zC | apply zD | apply zE | apply zF); (focus ((conv => lhs; simp); first | done | rfl)); first | apply zk | (apply zn; (focus rfl); try (focus (first | rfl | (simp; done)))) | apply gv_u | apply gv_tt | apply gv_ff | apply gv_ft | apply gv_tf))
    rw [tup_one, ← ht]; exact q2
  · unfold zig; split <;> omega
end Go.Proofs.YtmjaanhphkbkeaaGreat
end

section
namespace Go.Proofs.YtmjaanhphkbkeaaGreat
open Go.AM
set_option linter.unusedSimpArgs false
set_option linter.unusedVariables false
/-! ### cuts -/
def canon (c : Int × Int) : Int × Int := if c.1 < 0 ∨ c.1 = 0 ∧ c.2 = -9223372036854775808 then (-1, 0) else if c.1 > 0 then (1, 0) else c
def cmpI (a b : Int) : Int := if a < b then -1 else if b < a then 1 else 0
def cmpC (a b : Int × Int) : Int := if cmpI (canon a).1 (canon b).1 = 0 then cmpI (canon a).2 (canon b).2 else cmpI (canon a).1 (canon b).1
def lessC (a b : Int × Int) : Bool := if (canon a).1 = (canon b).1 then decide ((canon a).2 < (canon b).2) else decide ((canon a).1 < (canon b).1)
def rightC (c : Int × Int) : Bool := (canon c).1 == c.1 && (canon c).2 == c.2
theorem cmpC_neg {a b : Int × Int} : cmpC a b < 0 ↔ lessC a b = true := by
  unfold cmpC lessC cmpI
  generalize canon a = x; generalize canon b = y
  repeat' split
  all_goals simp
  all_goals omega
theorem cmpC_pos {a b : Int × Int} : cmpC a b > 0 ↔ lessC b a = true := by
  unfold cmpC lessC cmpI
  generalize canon a = x; generalize canon b = y
  repeat' split
  all_goals simp
  all_goals omega

theorem cmpC_dpos {a b : Int × Int} : decide (0 < cmpC a b) = lessC b a := by
  have := @cmpC_pos a b
  cases hl : lessC b a <;> simp_all
theorem cmpC_dneg {a b : Int × Int} : decide (cmpC a b < 0) = lessC a b := by
  have := @cmpC_neg a b
  cases hl : lessC a b <;> simp_all
variable {f : Nat} {h : Heap}
theorem first_runs : Runs X ⟨f, []⟩ 64 [] h (.agg #[.int .i64 (-1), .int .i64 0]) h := by
  refine Runs_of rfl f64_is ?_
  simp only [f64r0, f64r1, f64b]
  repeat' (first
 | refine za ?_ | refine zb ?_ | refine zc ?_ | refine zd ?_ | refine ze ?_ | refine zf ?_ | refine zg ?_ | refine zh ?_ | (refine zi ?_; try refine RgD_plain rfl ?_) | refine w_drawn rfl ?_ | refine zj ?_ | refine zl ?_
 | ((first | apply zs | (apply zt; (focus rfl)) | (apply zu; (focus rfl)) | (apply zv; (focus rfl)) | apply zx | apply zy | apply zB | apply zC | apply zD | apply zE | apply zF); (focus ((conv => lhs; simp [*]); first | done | rfl)); first | apply zk | (apply zn; (focus rfl); try (focus (first | rfl | (simp [*]; done)))) | apply gv_u | apply gv_tt | apply gv_ff | apply gv_ft | apply gv_tf | (apply gv_split <;> intro hc)))
theorem last_runs : Runs X ⟨f, []⟩ 65 [] h (.agg #[.int .i64 1, .int .i64 0]) h := by
  refine Runs_of rfl f65_is ?_
  simp only [f65r0, f65r1, f65b]
  repeat' (first
 | refine za ?_ | refine zb ?_ | refine zc ?_ | refine zd ?_ | refine ze ?_ | refine zf ?_ | refine zg ?_ | refine zh ?_ | (refine zi ?_; try refine RgD_plain rfl ?_) | refine w_drawn rfl ?_ | refine zj ?_ | refine zl ?_
 | ((first | apply zs | (apply zt; (focus rfl)) | (apply zu; (focus rfl)) | (apply zv; (focus rfl)) | apply zx | apply zy | apply zB | apply zC | apply zD | apply zE | apply zF); (focus ((conv => lhs; simp [*]); first | done | rfl)); first | apply zk | (apply zn; (focus rfl); try (focus (first | rfl | (simp [*]; done)))) | apply gv_u | apply gv_tt | apply gv_ff | apply gv_ft | apply gv_tf | (apply gv_split <;> intro hc)))
theorem canon_runs {s a : Int} : Runs X ⟨f, []⟩ 49 [.agg #[.int .i64 s, .int .i64 a]] h (.agg #[.int .i64 (canon (s, a)).1, .int .i64 (canon (s, a)).2]) h := by
  refine Runs_of rfl f49_is ?_
  simp only [f49r0, f49r1, f49r2, f49r3, f49r4, f49r5, f49b]
  repeat' (first
 | refine za ?_ | refine zb ?_ | refine zc ?_ | refine zd ?_ | refine ze ?_ | refine zf ?_ | refine zg ?_ | refine zh ?_ | (refine zi ?_; try refine RgD_plain rfl ?_) | refine w_drawn rfl ?_ | refine zj ?_ | refine zl ?_
 | ((first | apply zs | (apply zt; (focus rfl)) | (apply zu; (focus rfl)) | (apply zv; (focus rfl)) | apply zw | apply zx | apply zy | apply zB | apply zC | apply zD | apply zE | apply zF); (focus ((conv => lhs; simp [*]); first | done | rfl)); first | apply zk | (apply zn; (focus rfl); try (focus (first | rfl | (simp [*]; done)))) | apply gv_u | apply gv_tt | apply gv_ff | apply gv_ft | apply gv_tf | (apply gv_split <;> intro hc) | exact first_runs | exact last_runs))
  all_goals first | (simp_all [canon]; done) | (simp_all [canon]; omega) | (simp_all [canon]; split <;> simp_all <;> omega)
theorem least64_runs : Runs X ⟨f, []⟩ 66 [] h (.int .i64 (-9223372036854775808)) h := by
  refine Runs_of rfl f66_is ?_
  simp only [f66r0, f66r1, f66b]
  repeat' (first
 | refine za ?_ | refine zb ?_ | refine zc ?_ | refine zd ?_ | refine ze ?_ | refine zf ?_ | refine zg ?_ | refine zh ?_ | (refine zi ?_; try refine RgD_plain rfl ?_) | refine w_drawn rfl ?_ | refine zj ?_ | refine zl ?_
 | ((first | apply zs | (apply zt; (focus rfl)) | (apply zu; (focus rfl)) | (apply zv; (focus rfl)) | apply zx | apply zy | apply zB | apply zC | apply zD | apply zE | apply zF); (focus ((conv => lhs; simp [*]); first | done | rfl)); first | apply zk | (apply zn; (focus rfl); try (focus (first | rfl | (simp [*]; done)))) | apply gv_u | apply gv_tt | apply gv_ff | apply gv_ft | apply gv_tf | (apply gv_split <;> intro hc)))
theorem canon2_runs {s a : Int} : Runs X ⟨f, []⟩ 50 [.agg #[.int .i64 s, .int .i64 a]] h (.agg #[.int .i64 (canon (s, a)).1, .int .i64 (canon (s, a)).2]) h := by
  refine Runs_of rfl f50_is ?_
  simp only [f50r0, f50r1, f50r2, f50r3, f50r4, f50r5, f50b]
  repeat' (first
 | refine za ?_ | refine zb ?_ | refine zc ?_ | refine zd ?_ | refine ze ?_ | refine zf ?_ | refine zg ?_ | refine zh ?_ | (refine zi ?_; try refine RgD_plain rfl ?_) | refine w_drawn rfl ?_ | refine zj ?_ | refine zl ?_
 | ((first | apply zs | (apply zt; (focus rfl)) | (apply zu; (focus rfl)) | (apply zv; (focus rfl)) | apply zw | apply zx | apply zy | apply zB | apply zC | apply zD | apply zE | apply zF); (focus ((conv => lhs; simp [*]); first | done | rfl)); first | apply zk | (apply zn; (focus rfl); try (focus (first | rfl | (simp [*]; done)))) | apply gv_u | apply gv_tt | apply gv_ff | apply gv_ft | apply gv_tf | (apply gv_split <;> intro hc) | exact least64_runs))
  all_goals first | (simp_all [canon]; done) | (simp_all [canon]; omega) | (simp_all [canon]; split <;> simp_all <;> omega)
theorem isNaN1_runs {a : Int} : Runs X ⟨f, []⟩ 79 [.int .i64 a] h (.bool false) h := by
  refine Runs_of rfl f79_is ?_
  simp only [f79r0, f79r1, f79b]
  repeat' (first
 | refine za ?_ | refine zb ?_ | refine zc ?_ | refine zd ?_ | refine ze ?_ | refine zf ?_ | refine zg ?_ | refine zh ?_ | (refine zi ?_; try refine RgD_plain rfl ?_) | refine w_drawn rfl ?_ | refine zj ?_ | refine zl ?_
 | ((first | apply zs | (apply zt; (focus rfl)) | (apply zu; (focus rfl)) | (apply zv; (focus rfl)) | apply zx | apply zy | apply zB | apply zC | apply zD | apply zE | apply zF); (focus ((conv => lhs; simp [*]); first | done | rfl)); first | apply zk | (apply zn; (focus rfl); try (focus (first | rfl | (simp [*]; done)))) | apply gv_u | apply gv_tt | apply gv_ff | apply gv_ft | apply gv_tf | (apply gv_split <;> intro hc)))
theorem isNaN2_runs {a : Int} : Runs X ⟨f, []⟩ 80 [.int .i64 a] h (.bool false) h := by
  refine Runs_of rfl f80_is ?_
  simp only [f80r0, f80r1, f80b]
  repeat' (first
 | refine za ?_ | refine zb ?_ | refine zc ?_ | refine zd ?_ | refine ze ?_ | refine zf ?_ | refine zg ?_ | refine zh ?_ | (refine zi ?_; try refine RgD_plain rfl ?_) | refine w_drawn rfl ?_ | refine zj ?_ | refine zl ?_
 | ((first | apply zs | (apply zt; (focus rfl)) | (apply zu; (focus rfl)) | (apply zv; (focus rfl)) | apply zx | apply zy | apply zB | apply zC | apply zD | apply zE | apply zF); (focus ((conv => lhs; simp [*]); first | done | rfl)); first | apply zk | (apply zn; (focus rfl); try (focus (first | rfl | (simp [*]; done)))) | apply gv_u | apply gv_tt | apply gv_ff | apply gv_ft | apply gv_tf | (apply gv_split <;> intro hc)))
theorem cmp1_runs {a b : Int} : Runs X ⟨f, []⟩ 75 [.int .i64 a, .int .i64 b] h (.int .i64 (cmpI a b)) h := by
  refine Runs_of rfl f75_is ?_
  simp only [f75r0, f75r1, f75r2, f75r3, f75r4, f75r5, f75r6, f75r7, f75r8, f75r9, f75r10, f75r11, f75r12, f75r13, f75b]
  repeat' (first
 | refine za ?_ | refine zb ?_ | refine zc ?_ | refine zd ?_ | refine ze ?_ | refine zf ?_ | refine zg ?_ | refine zh ?_ | (refine zi ?_; try refine RgD_plain rfl ?_) | refine w_drawn rfl ?_ | refine zj ?_ | refine zl ?_
 | ((first | apply zs | (apply zt; (focus rfl)) | (apply zu; (focus rfl)) | (apply zv; (focus rfl)) | apply zw | apply zx | apply zy | apply zB | apply zC | apply zD | apply zE | apply zF); (focus ((conv => lhs; simp [*]); first | done | rfl)); first | apply zk | (apply zn; (focus rfl); try (focus (first | rfl | (simp [*]; done)))) | apply gv_u | apply gv_tt | apply gv_ff | apply gv_ft | apply gv_tf | (apply gv_split <;> intro hc) | exact isNaN1_runs))
  all_goals (simp_all [cmpI]; try omega)
theorem cmp2_runs {a b : Int} : Runs X ⟨f, []⟩ 76 [.int .i64 a, .int .i64 b] h (.int .i64 (cmpI a b)) h := by
  refine Runs_of rfl f76_is ?_
  simp only [f76r0, f76r1, f76r2, f76r3, f76r4, f76r5, f76r6, f76r7, f76r8, f76r9, f76r10, f76r11, f76r12, f76r13, f76b]
  repeat' (first
 | refine za ?_ | refine zb ?_ | refine zc ?_ | refine zd ?_ | refine ze ?_ | refine zf ?_ | refine zg ?_ | refine zh ?_ | (refine zi ?_; try refine RgD_plain rfl ?_) | refine w_drawn rfl ?_ | refine zj ?_ | refine zl ?_
 | ((first | apply zs | (apply zt; (focus rfl)) | (apply zu; (focus rfl)) | (apply zv; (focus rfl)) | apply zw | apply zx | apply zy | apply zB | apply zC | apply zD | apply zE | apply zF); (focus ((conv => lhs; simp [*]); first | done | rfl)); first | apply zk | (apply zn; (focus rfl); try (focus (first | rfl | (simp [*]; done)))) | apply gv_u | apply gv_tt | apply gv_ff | apply gv_ft | apply gv_tf | (apply gv_split <;> intro hc) | exact isNaN2_runs))
  all_goals (simp_all [cmpI]; try omega)
theorem or_runs {b : Nat} {x y : Int} (hb : b < h.size) (hc : h.cellsAt b = some [.int .i64 x, .int .i64 y]) : Runs X ⟨f, []⟩ 74 [.slice (some ⟨b, 0, none⟩) 2 2] h (.int .i64 (if x = 0 then y else x)) h := by
  refine Runs_of rfl f74_is ?_
  simp only [f74r0, f74r1, f74r2, f74r3, f74r4, f74r5, f74r6, f74r7, f74l8, f74r9, f74b]
  have e1 : ¬ b = h.size := Nat.ne_of_lt hb
  have e2 : ∀ x, ¬ b = h.size + x := fun x => by omega
  repeat' (first
 | refine za ?_ | refine zb ?_ | refine zc ?_ | refine zd ?_ | refine ze ?_ | refine zf ?_ | refine zg ?_ | refine zh ?_ | (refine zi ?_; try refine RgD_plain rfl ?_) | refine w_drawn rfl ?_ | refine zj ?_ | refine zl ?_ | refine zm ?_
 | ((first | apply zs | (apply zt; (focus rfl)) | (apply zu; (focus rfl)) | (apply zv; (focus rfl)) | apply zx | apply zy | apply zB | apply zC | apply zD | apply zE | apply zF); (focus ((conv => lhs; simp [*]); first | done | rfl)); first | apply zk | (apply zn; (focus rfl); try (focus (first | rfl | (simp [*]; done)))) | apply gv_u | apply gv_tt | apply gv_ff | apply gv_ft | apply gv_tf | (apply gv_split <;> intro hc)))

  all_goals simp_all
end Go.Proofs.YtmjaanhphkbkeaaGreat
end

section
namespace Go.Proofs.YtmjaanhphkbkeaaGreat
open Go.AM
set_option linter.unusedSimpArgs false
set_option linter.unusedVariables false
variable {f : Nat} {h : Heap}
theorem compare_runs {a b c d : Int} : Runs X ⟨f, []⟩ 62 [.agg #[.int .i64 a, .int .i64 b], .agg #[.int .i64 c, .int .i64 d]] h (.int .i64 (cmpC (a, b) (c, d))) h := by
  refine Runs_of rfl f62_is ?_
  simp only [f62r0, f62r1, f62r2, f62b]
  repeat' (first
 | refine za ?_ | refine zb ?_ | refine zc ?_ | refine zd ?_ | refine ze ?_ | refine zf ?_ | refine zg ?_ | refine zh ?_ | (refine zi ?_; try refine RgD_plain rfl ?_) | refine w_drawn rfl ?_ | refine zj ?_ | refine zl ?_
 | ((first | apply zs | (apply zt; (focus rfl)) | (apply zu; (focus rfl)) | (apply zv; (focus rfl)) | apply zw | apply zx | apply zy | apply zB | apply zC | apply zD | apply zE | apply zF); (focus ((conv => lhs; simp [*]); first | done | rfl)); first | apply zk | (apply zn; (focus rfl); try (focus (first | rfl | (simp [*]; done)))) | apply gv_u | apply gv_tt | apply gv_ff | apply gv_ft | apply gv_tf | (apply gv_split <;> intro hc) | exact canon_runs | exact cmp1_runs | exact cmp2_runs | exact (or_runs (by simp) (by rw [cellsAt_push, if_pos (by simp)]; rfl))))
  all_goals first | (simp_all [cmpC]; done) | trace_state
theorem rightC_runs {a b : Int} : Runs X ⟨f, []⟩ 73 [.agg #[.int .i64 a, .int .i64 b]] h (.bool (rightC (a, b))) h := by
  refine Runs_of rfl f73_is ?_
  simp only [f73r0, f73r1, f73b]
  repeat' (first
 | refine za ?_ | refine zb ?_ | refine zc ?_ | refine zd ?_ | refine ze ?_ | refine zf ?_ | refine zg ?_ | refine zh ?_ | (refine zi ?_; try refine RgD_plain rfl ?_) | refine w_drawn rfl ?_ | refine zj ?_ | refine zl ?_
 | ((first | apply zs | (apply zt; (focus rfl)) | (apply zu; (focus rfl)) | (apply zv; (focus rfl)) | apply zw | apply zx | apply zy | apply zB | apply zC | apply zD | apply zE | apply zF); (focus ((conv => lhs; simp [*]); first | done | rfl)); first | apply zk | (apply zn; (focus rfl); try (focus (first | rfl | (simp [*]; done)))) | apply gv_u | apply gv_tt | apply gv_ff | apply gv_ft | apply gv_tf | (apply gv_split <;> intro hc) | exact canon_runs))
  all_goals first | (simp_all [rightC, eqs, eqV, eqK]; done) | trace_state
theorem less_runs {a b c d : Int} : Runs X ⟨f, []⟩ 68 [.agg #[.int .i64 a, .int .i64 b], .agg #[.int .i64 c, .int .i64 d]] h (.bool (lessC (a, b) (c, d))) h := by
  refine Runs_of rfl f68_is ?_
  simp only [f68r0, f68r1, f68r2, f68r3, f68r4, f68r5, f68b]
  repeat' (first
 | refine za ?_ | refine zb ?_ | refine zc ?_ | refine zd ?_ | refine ze ?_ | refine zf ?_ | refine zg ?_ | refine zh ?_ | (refine zi ?_; try refine RgD_plain rfl ?_) | refine w_drawn rfl ?_ | refine zj ?_ | refine zl ?_
 | ((first | apply zs | (apply zt; (focus rfl)) | (apply zu; (focus rfl)) | (apply zv; (focus rfl)) | apply zw | apply zx | apply zy | apply zB | apply zC | apply zD | apply zE | apply zF); (focus ((conv => lhs; simp [*]); first | done | rfl)); first | apply zk | (apply zn; (focus rfl); try (focus (first | rfl | (simp [*]; done)))) | apply gv_u | apply gv_tt | apply gv_ff | apply gv_ft | apply gv_tf | (apply gv_split <;> intro hc) | exact canon2_runs))
  all_goals first | (simp_all [lessC]; done) | trace_state
def rightS (a b c d : Int) : Bool := rightC (a, b) && rightC (c, d) && lessC (a, b) (c, d)
theorem rightS_runs {a b c d : Int} : Runs X ⟨f, []⟩ 61 [.agg #[.int .i64 a, .int .i64 b, .int .i64 c, .int .i64 d]] h (.bool (rightS a b c d)) h := by
  refine Runs_of rfl f61_is ?_
  simp only [f61r0, f61r1, f61b]
  repeat' (first
 | refine za ?_ | refine zb ?_ | refine zc ?_ | refine zd ?_ | refine ze ?_ | refine zf ?_ | refine zg ?_ | refine zh ?_ | (refine zi ?_; try refine RgD_plain rfl ?_) | refine w_drawn rfl ?_ | refine zj ?_ | refine zl ?_
 | ((first | apply zs | (apply zt; (focus rfl)) | (apply zu; (focus rfl)) | (apply zv; (focus rfl)) | apply zw | apply zx | apply zy | apply zB | apply zC | apply zD | apply zE | apply zF); (focus ((conv => lhs; simp [*]); first | done | rfl)); first | apply zk | (apply zn; (focus rfl); try (focus (first | rfl | (simp [*]; done)))) | apply gv_u | apply gv_tt | apply gv_ff | apply gv_ft | apply gv_tf | (apply gv_split <;> intro hc) | exact compare_runs | exact rightC_runs))
  all_goals first | (simp_all [rightS, cmpC_neg]; done) | trace_state
theorem rightS2_runs {a b c d : Int} : Runs X ⟨f, []⟩ 67 [.agg #[.int .i64 a, .int .i64 b, .int .i64 c, .int .i64 d]] h (.bool (rightS a b c d)) h := by
  refine Runs_of rfl f67_is ?_
  simp only [f67r0, f67r1, f67b]
  repeat' (first
 | refine za ?_ | refine zb ?_ | refine zc ?_ | refine zd ?_ | refine ze ?_ | refine zf ?_ | refine zg ?_ | refine zh ?_ | (refine zi ?_; try refine RgD_plain rfl ?_) | refine w_drawn rfl ?_ | refine zj ?_ | refine zl ?_
 | ((first | apply zs | (apply zt; (focus rfl)) | (apply zu; (focus rfl)) | (apply zv; (focus rfl)) | apply zw | apply zx | apply zy | apply zB | apply zC | apply zD | apply zE | apply zF); (focus ((conv => lhs; simp [*]); first | done | rfl)); first | apply zk | (apply zn; (focus rfl); try (focus (first | rfl | (simp [*]; done)))) | apply gv_u | apply gv_tt | apply gv_ff | apply gv_ft | apply gv_tf | (apply gv_split <;> intro hc) | exact canon2_runs | exact less_runs))
  all_goals first | (simp_all [rightS, rightC]; done) | trace_state
theorem both_runs {a b c d a' b' c' d' : Int} : Runs X ⟨f, []⟩ 71 [.agg #[.int .i64 a, .int .i64 b, .int .i64 c, .int .i64 d], .agg #[.int .i64 a', .int .i64 b', .int .i64 c', .int .i64 d']] h (.bool (rightS a b c d && rightS a' b' c' d')) h := by
  refine Runs_of rfl f71_is ?_
  simp only [f71r0, f71r1, f71b]
  repeat' (first
 | refine za ?_ | refine zb ?_ | refine zc ?_ | refine zd ?_ | refine ze ?_ | refine zf ?_ | refine zg ?_ | refine zh ?_ | (refine zi ?_; try refine RgD_plain rfl ?_) | refine w_drawn rfl ?_ | refine zj ?_ | refine zl ?_
 | ((first | apply zs | (apply zt; (focus rfl)) | (apply zu; (focus rfl)) | (apply zv; (focus rfl)) | apply zw | apply zx | apply zy | apply zB | apply zC | apply zD | apply zE | apply zF); (focus ((conv => lhs; simp [*]); first | done | rfl)); first | apply zk | (apply zn; (focus rfl); try (focus (first | rfl | (simp [*]; done)))) | apply gv_u | apply gv_tt | apply gv_ff | apply gv_ft | apply gv_tf | (apply gv_split <;> intro hc) | exact rightS_runs))
  all_goals first | (simp_all; done) | trace_state
def touchS (a b c d a' b' c' d' : Int) : Bool := (rightS a b c d && rightS a' b' c' d') && ((c == a' && d == b') || (c' == a && d' == b))
theorem touch_runs {a b c d a' b' c' d' : Int} : Runs X ⟨f, []⟩ 57 [.agg #[.int .i64 a, .int .i64 b, .int .i64 c, .int .i64 d], .agg #[.int .i64 a', .int .i64 b', .int .i64 c', .int .i64 d']] h (.bool (touchS a b c d a' b' c' d')) h := by
  refine Runs_of rfl f57_is ?_
  simp only [f57r0, f57r1, f57b]
  repeat' (first
 | refine za ?_ | refine zb ?_ | refine zc ?_ | refine zd ?_ | refine ze ?_ | refine zf ?_ | refine zg ?_ | refine zh ?_ | (refine zi ?_; try refine RgD_plain rfl ?_) | refine w_drawn rfl ?_ | refine zj ?_ | refine zl ?_
 | ((first | apply zs | (apply zt; (focus rfl)) | (apply zu; (focus rfl)) | (apply zv; (focus rfl)) | apply zw | apply zx | apply zy | apply zB | apply zC | apply zD | apply zE | apply zF); (focus ((conv => lhs; simp [*]); first | done | rfl)); first | apply zk | (apply zn; (focus rfl); try (focus (first | rfl | (simp [*]; done)))) | apply gv_u | apply gv_tt | apply gv_ff | apply gv_ft | apply gv_tf | (apply gv_split <;> intro hc) | exact both_runs))
  all_goals first | (simp_all [touchS]; done) | trace_state
end Go.Proofs.YtmjaanhphkbkeaaGreat
end
