import Derived.Test.YtmjaanhphkbkeaaGreatCodeB
set_option linter.all false
section
namespace Go.Proofs.YtmjaanhphkbkeaaGreat
open Go.AM
set_option linter.unusedSimpArgs false
set_option linter.unusedVariables false
variable {f : Nat} {h : Heap}
/-! ### bytes -/
def bvs (l : List Nat) : List Value := l.map bv
@[simp] theorem bvs_len {l : List Nat} : (bvs l).length = l.length := by simp [bvs]
theorem bvs_one (l : List Nat) : (bvs l).all one = true := by simp [bvs, bv, List.all_eq_true]
theorem bvs_append {a b : List Nat} : bvs (a ++ b) = bvs a ++ bvs b := by simp [bvs]
def strB (l : List Nat) : ByteArray := ⟨(l.map UInt8.ofNat).toArray⟩
theorem strB_append {a b : List Nat} : strB a ++ strB b = strB (a ++ b) := by
  apply ByteArray.ext; simp [strB]
@[simp] theorem strB_size {a : List Nat} : (strB a).size = a.length := by simp [strB, ByteArray.size]
theorem binS_add {a b : List Nat} (ha : a.length ≤ 1000000000) (hb : b.length ≤ 1000000000) : binS .add (strB a) (strB b) = some (.string (strB (a ++ b))) := by
  have : ¬ (((strB a).size + (strB b).size : Nat) : Int) > IntKind.i64.max := by
    rw [strB_size, strB_size]; have : IntKind.i64.max = 9223372036854775807 := by decide
    omega
  simp only [binS]
  rw [if_neg this, strB_append]
theorem bytesOf_bvs : ∀ l : List Nat, bytesOf (bvs l) = some (l.map UInt8.ofNat)
  | [] => rfl
  | a :: l => by
    have := bytesOf_bvs l
    simp only [bvs] at this
    simp [bvs, bytesOf, bv, Go.AM.byteOf, this]
theorem bytes_val {env : Env} {x : Opd} {e n : Nat} {v : Value} {l : List Nat} (hv : x.val env = v) (hr : Row h e 1 v n (bvs l)) : aVal env h (.bytesStr x) = some (.string (strB l)) := by
  have hs := hr.src
  rcases hr.ex with ⟨rfl, rfl, q⟩ | ⟨b, o, c, rfl, _⟩
  · have : l = [] := by cases l with | nil => rfl | cons a l => simp [bvs] at q
    subst this
    simp only [aVal, hv]; rfl
  · simp only [aVal, hv, hs, Option.bind_some, bytesOf_bvs, Option.map_some]; rfl

def cutB (c : Int × Int) : List Nat := if (canon c).1 = -1 then [0] else if (canon c).1 = 1 then [2] else 1 :: numB (zig (canon c).2)
theorem canon_side (c : Int × Int) : (canon c).1 = -1 ∨ (canon c).1 = 1 ∨ (canon c).1 = 0 := by
  unfold canon; split
  · simp
  · split
    · simp
    · right; right; omega
theorem canon_at {c : Int × Int} (h : -9223372036854775808 ≤ c.2 ∧ c.2 ≤ 9223372036854775807) : -9223372036854775808 ≤ (canon c).2 ∧ (canon c).2 ≤ 9223372036854775807 := by
  unfold canon; split
  · simp
  · split
    · simp
    · exact h
theorem zig_lt {n : Int} (hn : -9223372036854775808 ≤ n ∧ n ≤ 9223372036854775807) : zig n < 2 ^ 64 := by unfold zig; split <;> omega
theorem num_len {n : Int} (hn : -9223372036854775808 ≤ n ∧ n ≤ 9223372036854775807) : (numB (zig n)).length ≤ 10 := numB_len 10 _ (by have := zig_lt hn; omega) (by omega)
theorem cut_len {c : Int × Int} (h : -9223372036854775808 ≤ c.2 ∧ c.2 ≤ 9223372036854775807) : (cutB c).length ≤ 11 := by
  unfold cutB; split
  · simp
  · split
    · simp
    · have := num_len (canon_at h); simp; omega
theorem cut_runs {v : Value} {l : List Nat} {s a : Int} (hfs : f ≤ h.size) (hb : Buf f h 5 1 v (bvs l)) (hl : l.length ≤ 800000) (hn : -9223372036854775808 ≤ a ∧ a ≤ 9223372036854775807) :
    callR X ⟨f, []⟩ 21 [v, .agg #[.int .i64 s, .int .i64 a]] h fun v' h' => Grow f 5 1 h h' v v' (bvs (l ++ cutB (s, a))) := by
  refine callR_of rfl f21_is ?_
  simp only [f21r0, f21r1, f21r2, f21r3, f21r4, f21r5, f21r6, f21r7, f21b]
  have hl' : (bvs l).length ≤ 800000 := by simpa using hl
  have g0 : Grow f 5 1 h (h.push (.cells [.int .i64 (canon (s, a)).1, .int .i64 (canon (s, a)).2] 48)) v v (bvs l) := (Grow.refl hb hfs (bvs_one l)).push _
  have hbl : ¬ blk v = some h.size := fun q => by have := hb.lt q; omega
  have hcn := canon_at (c := (s, a)) hn
  by_cases c1 : (canon (s, a)).1 = -1
  · have c1' : ((canon (s, a)).1 == -1) = true := by simpa using c1
    repeat (first
 | refine za ?_ | refine zb ?_ | refine zc ?_ | refine zd ?_ | refine ze ?_ | refine zf ?_ | refine zg ?_ | refine zh ?_ | (refine zi ?_; try refine RgD_plain rfl ?_) | refine w_drawn rfl ?_ | refine zj ?_ | refine zl ?_
 | ((first | apply zs | (apply zt; (focus rfl)) | (apply zu; (focus rfl)) | (apply zv; (focus rfl)) | apply zw | apply zx | apply zy | apply zB | apply zC | apply zD | apply zE | apply zF); (focus ((conv => lhs; simp [hfs, c1']); first | done | rfl)); first | apply zk | (apply zn; (focus rfl); try (focus (first | rfl | (simp [hfs, c1']; done)))) | apply gv_u | apply gv_tt | apply gv_ff | apply gv_ft | apply gv_tf | exact canon_runs))
    obtain ⟨v2, h2, q1, q2⟩ := g0.append1 (x := .int .u8 0) (by omega) rfl
    refine w_mem (v := v2) (h' := h2) rfl (by simpa using q1) ?_
    repeat (first
 | refine za ?_ | refine zb ?_ | refine zc ?_ | refine zd ?_ | refine ze ?_ | refine zf ?_ | refine zg ?_ | refine zh ?_ | (refine zi ?_; try refine RgD_plain rfl ?_) | refine w_drawn rfl ?_ | refine zj ?_ | refine zl ?_
 | ((first | apply zs | (apply zt; (focus rfl)) | (apply zu; (focus rfl)) | (apply zv; (focus rfl)) | apply zx | apply zy | apply zB | apply zC | apply zD | apply zE | apply zF); (focus ((conv => lhs; simp); first | done | rfl)); first | apply zk | (apply zn; (focus rfl); try (focus (first | rfl | (simp; done)))) | apply gv_u | apply gv_tt | apply gv_ff | apply gv_ft | apply gv_tf))
    have e : cutB (s, a) = [0] := by simp [cutB, c1]
    rw [tup_one, e, bvs_append]; exact q2
  · have c1' : ((canon (s, a)).1 == -1) = false := beq_eq_false_iff_ne.2 c1
    by_cases c2 : (canon (s, a)).1 = 1
    · have c2' : ((canon (s, a)).1 == 1) = true := by simpa using c2
      repeat (first
 | refine za ?_ | refine zb ?_ | refine zc ?_ | refine zd ?_ | refine ze ?_ | refine zf ?_ | refine zg ?_ | refine zh ?_ | (refine zi ?_; try refine RgD_plain rfl ?_) | refine w_drawn rfl ?_ | refine zj ?_ | refine zl ?_
 | ((first | apply zs | (apply zt; (focus rfl)) | (apply zu; (focus rfl)) | (apply zv; (focus rfl)) | apply zw | apply zx | apply zy | apply zB | apply zC | apply zD | apply zE | apply zF); (focus ((conv => lhs; simp [hfs, c1', c2']); first | done | rfl)); first | apply zk | (apply zn; (focus rfl); try (focus (first | rfl | (simp [hfs, c1', c2']; done)))) | apply gv_u | apply gv_tt | apply gv_ff | apply gv_ft | apply gv_tf | exact canon_runs))
      obtain ⟨v2, h2, q1, q2⟩ := g0.append1 (x := .int .u8 2) (by omega) rfl
      refine w_mem (v := v2) (h' := h2) rfl (by simpa using q1) ?_
      repeat (first
 | refine za ?_ | refine zb ?_ | refine zc ?_ | refine zd ?_ | refine ze ?_ | refine zf ?_ | refine zg ?_ | refine zh ?_ | (refine zi ?_; try refine RgD_plain rfl ?_) | refine w_drawn rfl ?_ | refine zj ?_ | refine zl ?_
 | ((first | apply zs | (apply zt; (focus rfl)) | (apply zu; (focus rfl)) | (apply zv; (focus rfl)) | apply zx | apply zy | apply zB | apply zC | apply zD | apply zE | apply zF); (focus ((conv => lhs; simp); first | done | rfl)); first | apply zk | (apply zn; (focus rfl); try (focus (first | rfl | (simp; done)))) | apply gv_u | apply gv_tt | apply gv_ff | apply gv_ft | apply gv_tf))
      have e : cutB (s, a) = [2] := by simp [cutB, c2]
      rw [tup_one, e, bvs_append]; exact q2
    · have c2' : ((canon (s, a)).1 == 1) = false := beq_eq_false_iff_ne.2 c2
      repeat (first
 | refine za ?_ | refine zb ?_ | refine zc ?_ | refine zd ?_ | refine ze ?_ | refine zf ?_ | refine zg ?_ | refine zh ?_ | (refine zi ?_; try refine RgD_plain rfl ?_) | refine w_drawn rfl ?_ | refine zj ?_ | refine zl ?_
 | ((first | apply zs | (apply zt; (focus rfl)) | (apply zu; (focus rfl)) | (apply zv; (focus rfl)) | apply zw | apply zx | apply zy | apply zB | apply zC | apply zD | apply zE | apply zF); (focus ((conv => lhs; simp [hfs, c1', c2']); first | done | rfl)); first | apply zk | (apply zn; (focus rfl); try (focus (first | rfl | (simp [hfs, c1', c2']; done)))) | apply gv_u | apply gv_tt | apply gv_ff | apply gv_ft | apply gv_tf | exact canon_runs))
      obtain ⟨v2, h2, q1, q2⟩ := (Grow.refl g0.buf g0.fs g0.one).append1 (x := .int .u8 1) (by omega) rfl
      have hc2 : h2.cellsAt h.size = some [.int .i64 (canon (s, a)).1, .int .i64 (canon (s, a)).2] := by rw [q2.cells (by simp) hbl]; simp
      refine w_mem (v := v2) (h' := h2) rfl (by simpa using q1) ?_
      repeat (first
 | refine za ?_ | refine zb ?_ | refine zc ?_ | refine zd ?_ | refine ze ?_ | refine zf ?_ | refine zg ?_ | refine zh ?_ | (refine zi ?_; try refine RgD_plain rfl ?_) | refine w_drawn rfl ?_ | refine zj ?_ | refine zl ?_
 | ((first | apply zs | (apply zt; (focus rfl)) | (apply zu; (focus rfl)) | (apply zv; (focus rfl)) | apply zx | apply zy | apply zB | apply zC | apply zD | apply zE | apply zF); (focus ((conv => lhs; simp [hc2]); first | done | rfl)); first | apply zk | (apply zn; (focus rfl); try (focus (first | rfl | (simp [hc2]; done)))) | apply gv_u | apply gv_tt | apply gv_ff | apply gv_ft | apply gv_tf))
      (apply zW; (focus ((conv => lhs; simp [hc2]); first | done | rfl)); (focus exact num_runs (l := bvs (l ++ [1])) q2.fs (by rw [bvs_append]; exact q2.buf) (bvs_one _) (by simp; omega) hcn)); intro v' h' q
      rw [bvs_append] at q
      have g3 := (g0.trans q2).trans q
      repeat (first
 | refine za ?_ | refine zb ?_ | refine zc ?_ | refine zd ?_ | refine ze ?_ | refine zf ?_ | refine zg ?_ | refine zh ?_ | (refine zi ?_; try refine RgD_plain rfl ?_) | refine w_drawn rfl ?_ | refine zj ?_ | refine zl ?_
 | ((first | apply zs | (apply zt; (focus rfl)) | (apply zu; (focus rfl)) | (apply zv; (focus rfl)) | apply zx | apply zy | apply zB | apply zC | apply zD | apply zE | apply zF); (focus ((conv => lhs; simp); first | done | rfl)); first | apply zk | (apply zn; (focus rfl); try (focus (first | rfl | (simp; done)))) | apply gv_u | apply gv_tt | apply gv_ff | apply gv_ft | apply gv_tf))
      have e : cutB (s, a) = 1 :: numB (zig (canon (s, a)).2) := by simp [cutB, c1, c2]
      rw [tup_one, e]
      simpa [bvs] using g3
theorem sized_runs {v : Value} {l : List Nat} (hfs : f ≤ h.size) (hr : Row h 5 1 v l.length (bvs l)) (hl : l.length ≤ 800000) (h0 : 0 < l.length) :
    callR X ⟨f, []⟩ 22 [v] h fun v' h' => Grow f 5 1 h h' (.slice none 0 0) v' (bvs (numB (zig l.length) ++ l)) := by
  refine callR_of rfl f22_is ?_
  simp only [f22r0, f22r1, f22b]
  obtain ⟨a, c, rfl⟩ := hr.form
  repeat (first
 | refine za ?_ | refine zb ?_ | refine zc ?_ | refine zd ?_ | refine ze ?_ | refine zf ?_ | refine zg ?_ | refine zh ?_ | (refine zi ?_; try refine RgD_plain rfl ?_) | refine w_drawn rfl ?_ | refine zj ?_ | refine zl ?_
 | ((first | apply zs | (apply zt; (focus rfl)) | (apply zu; (focus rfl)) | (apply zv; (focus rfl)) | apply zx | apply zy | apply zB | apply zC | apply zD | apply zE | apply zF); (focus ((conv => lhs; simp); first | done | rfl)); first | apply zk | (apply zn; (focus rfl); try (focus (first | rfl | (simp; done)))) | apply gv_u | apply gv_tt | apply gv_ff | apply gv_ft | apply gv_tf))
  (apply zW; (focus ((conv => lhs; simp); first | done | rfl)); (focus exact num_runs (l := []) (v := .slice none 0 0) hfs (.inl ⟨rfl, rfl⟩) rfl (by simp) (by omega))); intro v' h' q
  repeat (first
 | refine za ?_ | refine zb ?_ | refine zc ?_ | refine zd ?_ | refine ze ?_ | refine zf ?_ | refine zg ?_ | refine zh ?_ | (refine zi ?_; try refine RgD_plain rfl ?_) | refine w_drawn rfl ?_ | refine zj ?_ | refine zl ?_
 | ((first | apply zs | (apply zt; (focus rfl)) | (apply zu; (focus rfl)) | (apply zv; (focus rfl)) | apply zx | apply zy | apply zB | apply zC | apply zD | apply zE | apply zF); (focus ((conv => lhs; simp); first | done | rfl)); first | apply zk | (apply zn; (focus rfl); try (focus (first | rfl | (simp; done)))) | apply gv_u | apply gv_tt | apply gv_ff | apply gv_ft | apply gv_tf))
  have hln := num_len (n := l.length) (by omega)
  obtain ⟨v2, h2, q1, q2⟩ := q.append (by_ := 1) (n := (numB (zig l.length)).length) (m := l.length) (by omega) (hr.keepB q.keep (.inl rfl)).src h0 (by simp) (bvs_one _) (by omega) (by omega) (by simp)
  refine w_mem (v := v2) (h' := h2) rfl (by simpa using q1) ?_
  repeat (first
 | refine za ?_ | refine zb ?_ | refine zc ?_ | refine zd ?_ | refine ze ?_ | refine zf ?_ | refine zg ?_ | refine zh ?_ | (refine zi ?_; try refine RgD_plain rfl ?_) | refine w_drawn rfl ?_ | refine zj ?_ | refine zl ?_
 | ((first | apply zs | (apply zt; (focus rfl)) | (apply zu; (focus rfl)) | (apply zv; (focus rfl)) | apply zx | apply zy | apply zB | apply zC | apply zD | apply zE | apply zF); (focus ((conv => lhs; simp); first | done | rfl)); first | apply zk | (apply zn; (focus rfl); try (focus (first | rfl | (simp; done)))) | apply gv_u | apply gv_tt | apply gv_ff | apply gv_ft | apply gv_tf))
  rw [tup_one, bvs_append]; exact q2
theorem num2_loop {h0 : Heap} {tot : List Nat} {Q : AExit → Env → Heap → Prop} (hlen : tot.length ≤ 1000000)
    (K : ∀ env h l u, u < 128 → env 4 = .string (strB l) → env 3 = .int .u64 (u : Nat) → KeepB h0 h none → l ++ [u] = tot → Q (.exit 0) env h) :
    ∀ (env : Env) (h : Heap) (l : List Nat) (u : Nat), u < 2 ^ 64 → env 4 = .string (strB l) → env 3 = .int .u64 (u : Nat) → KeepB h0 h none → l ++ numB u = tot → Ok X ⟨f, []⟩ (.loop f23l9) env h Q := by
  intro env h l u hu e4 e3 g ht
  refine w_loop (A := List Nat × Nat) (fun a env h => a.2 < 2 ^ 64 ∧ env 4 = .string (strB a.1) ∧ env 3 = .int .u64 (a.2 : Nat) ∧ KeepB h0 h none ∧ a.1 ++ numB a.2 = tot) (fun a => a.2) (a0 := (l, u)) ⟨hu, e4, e3, g, ht⟩ ?_
  clear hu e4 e3 g ht
  rintro ⟨l, u⟩ env h ⟨hu, e4, e3, g, ht⟩
  simp only at hu e4 e3 g ht ⊢
  simp only [f23r0, f23r1, f23r2, f23r3, f23r4, f23r5, f23r6, f23r7, f23r8, f23l9, f23r10, f23b]
  by_cases h128 : u < 128
  · have hd : ¬ (u : Int) ≥ 128 := by omega
    have hd' : decide ((128 : Int) ≤ u) = false := by simp; omega
    repeat (first
 | refine za ?_ | refine zb ?_ | refine zc ?_ | refine zd ?_ | refine ze ?_ | refine zf ?_ | refine zg ?_ | refine zh ?_ | (refine zi ?_; try refine RgD_plain rfl ?_) | refine w_drawn rfl ?_ | refine zj ?_ | refine zl ?_
 | ((first | apply zs | (apply zt; (focus rfl)) | (apply zu; (focus rfl)) | (apply zv; (focus rfl)) | apply zx | apply zy | apply zB | apply zC | apply zD | apply zE | apply zF); (focus ((conv => lhs; simp [e4, e3, hd, hd']); first | done | rfl)); first | apply zk | (apply zn; (focus rfl); try (focus (first | rfl | (simp [e4, e3, hd, hd']; done)))) | apply gv_u | apply gv_tt | apply gv_ff | apply gv_ft | apply gv_tf))
    exact K _ h l u h128 (by simp [e4]) (by simp [e3]) g (by rw [← ht, numB, dif_pos h128])
  · have hd' : decide ((128 : Int) ≤ u) = true := by simp; omega
    have hlt : l.length ≤ 1000000 := by
      have := congrArg List.length ht
      simp at this; omega
    obtain ⟨w, hw⟩ : ∃ w, w = u % 128 + 128 := ⟨_, rfl⟩
    have hm : IntKind.u8.wrap (IntKind.u64.wrap ((u : Int).tmod 128 + 128)) = (w : Int) := by
      rw [hw, wrap8', wrap64u, Int.tmod_eq_emod_of_nonneg (by omega)]; omega
    have hq : IntKind.u64.wrap ((u : Int).tdiv 128) = ((u / 128 : Nat) : Int) := by
      rw [wrap64u, Int.tdiv_eq_ediv_of_nonneg (by omega)]; omega
    have hq2 : IntKind.u64.wrap ((u : Int) / 128) = ((u / 128 : Nat) : Int) := by rw [wrap64u]; omega
    have hb : binS .add (strB l) ⟨#[UInt8.ofNat w]⟩ = some (.string (strB (l ++ [w]))) := binS_add (b := [w]) (by omega) (by simp)
    repeat (first
 | refine za ?_ | refine zb ?_ | refine zc ?_ | refine zd ?_ | refine ze ?_ | refine zf ?_ | refine zg ?_ | refine zh ?_ | (refine zi ?_; try refine RgD_plain rfl ?_) | refine w_drawn rfl ?_ | refine zj ?_ | refine zl ?_
 | ((first | apply zs | (apply zt; (focus rfl)) | (apply zu; (focus rfl)) | (apply zv; (focus rfl)) | apply zx | apply zy | apply zB | apply zC | apply zD | apply zE | apply zF); (focus ((conv => lhs; simp [e4, e3, hd', hm, hq, hq2, hb, srcCells, bytesOf, Go.AM.byteOf]); first | done | rfl)); first | apply zk | (apply zn; (focus rfl); try (focus (first | rfl | (simp [e4, e3, hd', hm, hq, hq2, hb, srcCells, bytesOf, Go.AM.byteOf]; done)))) | apply gv_u | apply gv_tt | apply gv_ff | apply gv_ft | apply gv_tf))
    refine ⟨(l ++ [w], u / 128), ⟨by simp only; omega, by simp, by simp [hq2], g.push _, ?_⟩, by simp only; omega⟩
    rw [← ht]
    conv => rhs; rw [numB, dif_neg h128]
    simp [hw]
theorem num2_runs {n : Int} (hn : -9223372036854775808 ≤ n ∧ n ≤ 9223372036854775807) : Runs X ⟨f, []⟩ 23 [.int .i64 n] h (.string (strB (numB (zig n)))) h := by
  refine Runs_of rfl f23_is ?_
  simp only [f23r0, f23r1, f23r2, f23r3, f23r4, f23r5, f23r6, f23r7, f23r8, f23l9, f23r10, f23b]
  have hln := num_len hn
  have key : ∀ (env : Env), env 4 = .string ⟨#[]⟩ → env 3 = .int .u64 (zig n : Nat) → Ok X ⟨h.size, []⟩ (.loop f23l9) env h (blockQ 0 (thenQ (fun e h1 => Ok X ⟨h.size, []⟩ (.seq (.reg f23r10) .ret) e h1 (EndsQ [.tmp 2] .pure h (.string (strB (numB (zig n)))) h)) (EndsQ [.tmp 2] .pure h (.string (strB (numB (zig n)))) h))) := by
    intro env e4 e3
    refine num2_loop (f := h.size) (h0 := h) (tot := numB (zig n)) (by omega) (fun env h' l u hu e4 e3 hk ht => ?_) env h [] (zig n) (zig_lt hn) e4 e3 (.refl _ _) rfl
    have hm : IntKind.u8.wrap (u : Int) = (u : Int) := by rw [wrap8']; omega
    have hb : binS .add (strB l) ⟨#[UInt8.ofNat u]⟩ = some (.string (strB (l ++ [u]))) := binS_add (b := [u]) (by have := congrArg List.length ht; simp at this; omega) (by simp)
    simp only [f23r0, f23r1, f23r2, f23r3, f23r4, f23r5, f23r6, f23r7, f23r8, f23l9, f23r10, f23b]
    repeat (first
 | refine za ?_ | refine zb ?_ | refine zc ?_ | refine zd ?_ | refine ze ?_ | refine zf ?_ | refine zg ?_ | refine zh ?_ | (refine zi ?_; try refine RgD_plain rfl ?_) | refine w_drawn rfl ?_ | refine zj ?_ | refine zl ?_
 | ((first | apply zs | (apply zt; (focus rfl)) | (apply zu; (focus rfl)) | (apply zv; (focus rfl)) | apply zx | apply zy | apply zB | apply zC | apply zD | apply zE | apply zF); (focus ((conv => lhs; simp [e4, e3, hm, hb, srcCells, bytesOf, Go.AM.byteOf]); first | done | rfl)); first | apply zk | (apply zn; (focus rfl); try (focus (first | rfl | (simp [e4, e3, hm, hb, srcCells, bytesOf, Go.AM.byteOf]; done)))) | apply gv_u | apply gv_tt | apply gv_ff | apply gv_ft | apply gv_tf))
    rw [tup_one, ht]
  by_cases h0 : 0 ≤ n
  · have hz : IntKind.u64.wrap (2 * IntKind.u64.wrap n) = ((zig n : Nat) : Int) := by rw [wrap64u, wrap64u, zig, if_pos h0]; omega
    repeat (first
 | refine za ?_ | refine zb ?_ | refine zc ?_ | refine zd ?_ | refine ze ?_ | refine zf ?_ | refine zg ?_ | refine zh ?_ | (refine zi ?_; try refine RgD_plain rfl ?_) | refine w_drawn rfl ?_ | refine zj ?_ | refine zl ?_
 | ((first | apply zs | (apply zt; (focus rfl)) | (apply zu; (focus rfl)) | (apply zv; (focus rfl)) | apply zx | apply zy | apply zB | apply zC | apply zD | apply zE | apply zF); (focus ((conv => lhs; simp [h0, hz]); first | done | rfl)); first | apply zk | (apply zn; (focus rfl); try (focus (first | rfl | (simp [h0, hz]; done)))) | apply gv_u | apply gv_tt | apply gv_ff | apply gv_ft | apply gv_tf))
    exact key _ (by simp) (by simp)
  · have hz : IntKind.u64.wrap (IntKind.u64.wrap (2 * IntKind.u64.wrap (IntKind.i64.wrap (0 - IntKind.i64.wrap (n + 1)))) + 1) = ((zig n : Nat) : Int) := by
      rw [wrapI (n := n + 1) (by omega), wrapI (by omega), wrap64u, wrap64u, wrap64u, zig, if_neg h0]; omega
    have hz2 : IntKind.u64.wrap (IntKind.u64.wrap (2 * IntKind.u64.wrap (IntKind.i64.wrap (- IntKind.i64.wrap (n + 1)))) + 1) = ((zig n : Nat) : Int) := by rw [← hz]; simp
    have h0' : decide (0 ≤ n) = false := by simp; omega
    repeat (first
 | refine za ?_ | refine zb ?_ | refine zc ?_ | refine zd ?_ | refine ze ?_ | refine zf ?_ | refine zg ?_ | refine zh ?_ | (refine zi ?_; try refine RgD_plain rfl ?_) | refine w_drawn rfl ?_ | refine zj ?_ | refine zl ?_
 | ((first | apply zs | (apply zt; (focus rfl)) | (apply zu; (focus rfl)) | (apply zv; (focus rfl)) | apply zx | apply zy | apply zB | apply zC | apply zD | apply zE | apply zF); (focus ((conv => lhs; simp [h0', hz, hz2]); first | done | rfl)); first | apply zk | (apply zn; (focus rfl); try (focus (first | rfl | (simp [h0', hz, hz2]; done)))) | apply gv_u | apply gv_tt | apply gv_ff | apply gv_ft | apply gv_tf))
    exact key _ (by simp) (by simp [hz2])
theorem cut2_runs {s a : Int} (hn : -9223372036854775808 ≤ a ∧ a ≤ 9223372036854775807) : Runs X ⟨f, []⟩ 24 [.agg #[.int .i64 s, .int .i64 a]] h (.string (strB (cutB (s, a)))) h := by
  refine Runs_of rfl f24_is ?_
  simp only [f24r0, f24r1, f24r2, f24r3, f24r4, f24r5, f24r6, f24b]
  have hcn := canon_at (c := (s, a)) hn
  have hln := num_len hcn
  have hb : binS .add ⟨#[1]⟩ (strB (numB (zig (canon (s, a)).2))) = some (.string (strB (1 :: numB (zig (canon (s, a)).2)))) := binS_add (a := [1]) (by simp) (by omega)
  rcases canon_side (s, a) with c1 | c1 | c1
  · have e : cutB (s, a) = [0] := by simp [cutB, c1]
    rw [e]
    repeat (first
 | refine za ?_ | refine zb ?_ | refine zc ?_ | refine zd ?_ | refine ze ?_ | refine zf ?_ | refine zg ?_ | refine zh ?_ | (refine zi ?_; try refine RgD_plain rfl ?_) | refine w_drawn rfl ?_ | refine zj ?_ | refine zl ?_
 | ((first | apply zs | (apply zt; (focus rfl)) | (apply zu; (focus rfl)) | (apply zv; (focus rfl)) | apply zw | apply zx | apply zy | apply zB | apply zC | apply zD | apply zE | apply zF); (focus ((conv => lhs; simp [c1]); first | done | rfl)); first | apply zk | (apply zn; (focus rfl); try (focus (first | rfl | (simp [c1]; done)))) | apply gv_u | apply gv_tt | apply gv_ff | apply gv_ft | apply gv_tf | exact canon2_runs))
  · have e : cutB (s, a) = [2] := by simp [cutB, c1]
    rw [e]
    repeat (first
 | refine za ?_ | refine zb ?_ | refine zc ?_ | refine zd ?_ | refine ze ?_ | refine zf ?_ | refine zg ?_ | refine zh ?_ | (refine zi ?_; try refine RgD_plain rfl ?_) | refine w_drawn rfl ?_ | refine zj ?_ | refine zl ?_
 | ((first | apply zs | (apply zt; (focus rfl)) | (apply zu; (focus rfl)) | (apply zv; (focus rfl)) | apply zw | apply zx | apply zy | apply zB | apply zC | apply zD | apply zE | apply zF); (focus ((conv => lhs; simp [c1]); first | done | rfl)); first | apply zk | (apply zn; (focus rfl); try (focus (first | rfl | (simp [c1]; done)))) | apply gv_u | apply gv_tt | apply gv_ff | apply gv_ft | apply gv_tf | exact canon2_runs))
  · have e : cutB (s, a) = 1 :: numB (zig (canon (s, a)).2) := by simp [cutB, c1]
    rw [e]
    repeat (first
 | refine za ?_ | refine zb ?_ | refine zc ?_ | refine zd ?_ | refine ze ?_ | refine zf ?_ | refine zg ?_ | refine zh ?_ | (refine zi ?_; try refine RgD_plain rfl ?_) | refine w_drawn rfl ?_ | refine zj ?_ | refine zl ?_
 | ((first | apply zs | (apply zt; (focus rfl)) | (apply zu; (focus rfl)) | (apply zv; (focus rfl)) | apply zw | apply zx | apply zy | apply zB | apply zC | apply zD | apply zE | apply zF); (focus ((conv => lhs; simp [c1, hb]); first | done | rfl)); first | apply zk | (apply zn; (focus rfl); try (focus (first | rfl | (simp [c1, hb]; done)))) | apply gv_u | apply gv_tt | apply gv_ff | apply gv_ft | apply gv_tf | exact canon2_runs | exact (num2_runs hcn)))
end Go.Proofs.YtmjaanhphkbkeaaGreat
end

section
namespace Go.Proofs.YtmjaanhphkbkeaaGreat
open Go.AM
set_option linter.unusedSimpArgs false
set_option linter.unusedVariables false
variable {f : Nat} {h : Heap}
abbrev BRow (h : Heap) (v : Value) (l : List Nat) : Prop := Row h 5 1 v l.length (bvs l)
theorem _root_.Go.AM.Row.bytes {e n : Nat} {a : Option Addr} {c : Nat} {l : List Nat} (r : Row h e 1 (.slice a n c) n (bvs l)) (hn : 0 < n) :
    ∃ b o cs, a = some ⟨b, o, none⟩ ∧ b < h.size ∧ h.cellsAt b = some cs ∧ ∀ (i x : Nat), l[i]? = some x → cs[o + i]? = some (.int .u8 x) := by
  obtain ⟨b, o, cs, q1, q2, q3, q4⟩ := r.cell hn
  refine ⟨b, o, cs, q1, q2, q3, fun i x hx => ?_⟩
  have hl := r.len
  have hi : i < n := by
    have := (List.getElem?_eq_some_iff.1 hx).1
    simp at hl; omega
  rw [grab_get q4 (by omega)]
  simp [bvs, hx, bv]
theorem equal_runs {v w : Value} {xs ys : List Nat} (hr : BRow h v xs) (hq : BRow h w ys) (hl : xs.length ≤ 1000000) (hl2 : ys.length ≤ 1000000) : Runs X ⟨f, []⟩ 43 [v, w] h (.bool (decide (xs = ys))) h := by
  refine Runs_of rfl f43_is ?_
  simp only [f43r0, f43r1, f43r2, f43r3, f43r4, f43r5, f43r6, f43r7, f43r8, f43l9, f43r10, f43b]
  obtain ⟨a, c, rfl⟩ := hr.form
  obtain ⟨a2, c2, rfl⟩ := hq.form
  by_cases hne : xs.length = ys.length
  · repeat' (first
 | refine za ?_ | refine zb ?_ | refine zc ?_ | refine zd ?_ | refine ze ?_ | refine zf ?_ | refine zg ?_ | refine zh ?_ | (refine zi ?_; try refine RgD_plain rfl ?_) | refine w_drawn rfl ?_ | refine zj ?_ | refine zl ?_
 | ((first | apply zs | (apply zt; (focus rfl)) | (apply zu; (focus rfl)) | (apply zv; (focus rfl)) | apply zx | apply zy | apply zB | apply zC | apply zD | apply zE | apply zF); (focus ((conv => lhs; simp [hne, *]); first | done | rfl)); first | apply zk | (apply zn; (focus rfl); try (focus (first | rfl | (simp [hne, *]; done)))) | (apply zo; (focus rfl)) | apply gv_u | apply gv_tt | apply gv_ff | apply gv_ft | apply gv_tf | (apply gv_split <;> intro hc)))
    refine w_loop (A := Nat) (fun i env h' => i ≤ ys.length ∧ env 0 = .slice a xs.length c ∧ env 1 = .slice a2 ys.length c2 ∧ env 12 = .int .i64 ys.length ∧ env 13 = .int .i64 i ∧ h' = h ∧ decide (xs = ys) = decide (xs.drop i = ys.drop i)) (fun i => ys.length - i) (a0 := 0) ⟨by omega, by simp, by simp, by simp, by simp, rfl, rfl⟩ ?_
    rintro i env h' ⟨hi, e0, e1, e12, e13, rfl, hs⟩
    by_cases hlt2 : i < ys.length
    · have hlt : i < xs.length := by omega
      obtain ⟨s, hx, hd⟩ := elem_at hlt
      obtain ⟨b, o, cs, rfl, hb, hc, hga⟩ := hr.bytes (by omega)
      have hg := hga i s hx
      obtain ⟨t, hx2, hd2⟩ := elem_at hlt2
      obtain ⟨b2, o2, cs2, rfl, hb2, hc2, hga2⟩ := hq.bytes (by omega)
      have hg2 := hga2 i t hx2
      have w1 := wadd (i := i) (by omega)
      by_cases hst : s = t
      · replace hs : decide (xs = ys) = decide (xs.drop (i + 1) = ys.drop (i + 1)) := by
          rw [hs, hd, hd2, hst]; simp
        have hst' : ((s : Int) != t) = false := by simp [hst]
        clear hd hx hx2 hd2 hr hq hga hga2 hst
        repeat (first
 | refine za ?_ | refine zb ?_ | refine zc ?_ | refine zd ?_ | refine ze ?_ | refine zf ?_ | refine zg ?_ | refine zh ?_ | (refine zi ?_; try refine RgD_plain rfl ?_) | refine w_drawn rfl ?_ | refine zj ?_ | refine zl ?_
 | ((first | apply zs | (apply zt; (focus rfl)) | (apply zu; (focus rfl)) | (apply zv; (focus rfl)) | apply zx | apply zy | apply zB | apply zC | apply zD | apply zE | apply zF); (focus ((conv => lhs; simp [e0, e1, e12, e13, hlt, hc, hg, hlt2, hc2, hg2, w1, hst']); first | done | rfl)); first | apply zk | (apply zn; (focus rfl); try (focus (first | rfl | (simp [e0, e1, e12, e13, hlt, hc, hg, hlt2, hc2, hg2, w1, hst']; done)))) | (apply zo; (focus rfl)) | apply gv_u | apply gv_tt | apply gv_ff | apply gv_ft | apply gv_tf))
        exact ⟨i + 1, ⟨by omega, by simp [e0], by simp [e1], by simp [e12], by simp, rfl, hs⟩, by omega⟩
      · replace hs : decide (xs = ys) = false := by
          rw [hs, hd, hd2]; simp [hst]
        have hst' : ((s : Int) != t) = true := by simp; omega
        rw [hs]
        clear hd hx hx2 hd2 hr hq hga hga2 hst
        repeat (first
 | refine za ?_ | refine zb ?_ | refine zc ?_ | refine zd ?_ | refine ze ?_ | refine zf ?_ | refine zg ?_ | refine zh ?_ | (refine zi ?_; try refine RgD_plain rfl ?_) | refine w_drawn rfl ?_ | refine zj ?_ | refine zl ?_
 | ((first | apply zs | (apply zt; (focus rfl)) | (apply zu; (focus rfl)) | (apply zv; (focus rfl)) | apply zx | apply zy | apply zB | apply zC | apply zD | apply zE | apply zF); (focus ((conv => lhs; simp [e0, e1, e12, e13, hlt, hc, hg, hlt2, hc2, hg2, w1, hst']); first | done | rfl)); first | apply zk | (apply zn; (focus rfl); try (focus (first | rfl | (simp [e0, e1, e12, e13, hlt, hc, hg, hlt2, hc2, hg2, w1, hst']; done)))) | (apply zo; (focus rfl)) | apply gv_u | apply gv_tt | apply gv_ff | apply gv_ft | apply gv_tf))
    · have e : decide (xs = ys) = true := by rw [hs, List.drop_eq_nil_of_le (by omega), List.drop_eq_nil_of_le (by omega)]; simp
      rw [e]
      repeat (first
 | refine za ?_ | refine zb ?_ | refine zc ?_ | refine zd ?_ | refine ze ?_ | refine zf ?_ | refine zg ?_ | refine zh ?_ | (refine zi ?_; try refine RgD_plain rfl ?_) | refine w_drawn rfl ?_ | refine zj ?_ | refine zl ?_
 | ((first | apply zs | (apply zt; (focus rfl)) | (apply zu; (focus rfl)) | (apply zv; (focus rfl)) | apply zx | apply zy | apply zB | apply zC | apply zD | apply zE | apply zF); (focus ((conv => lhs; simp [e0, e1, e12, e13, hlt2]); first | done | rfl)); first | apply zk | (apply zn; (focus rfl); try (focus (first | rfl | (simp [e0, e1, e12, e13, hlt2]; done)))) | (apply zo; (focus rfl)) | apply gv_u | apply gv_tt | apply gv_ff | apply gv_ft | apply gv_tf))
  · have e : decide (xs = ys) = false := by simp; intro q; exact hne (by rw [q])
    have hne' : ((xs.length : Int) != ys.length) = true := by simp; omega
    rw [e]
    repeat (first
 | refine za ?_ | refine zb ?_ | refine zc ?_ | refine zd ?_ | refine ze ?_ | refine zf ?_ | refine zg ?_ | refine zh ?_ | (refine zi ?_; try refine RgD_plain rfl ?_) | refine w_drawn rfl ?_ | refine zj ?_ | refine zl ?_
 | ((first | apply zs | (apply zt; (focus rfl)) | (apply zu; (focus rfl)) | (apply zv; (focus rfl)) | apply zx | apply zy | apply zB | apply zC | apply zD | apply zE | apply zF); (focus ((conv => lhs; simp [hne']); first | done | rfl)); first | apply zk | (apply zn; (focus rfl); try (focus (first | rfl | (simp [hne']; done)))) | (apply zo; (focus rfl)) | apply gv_u | apply gv_tt | apply gv_ff | apply gv_ft | apply gv_tf))
theorem index_runs {v : Value} {xs : List Nat} {x : Nat} (hr : BRow h v xs) (hl : xs.length ≤ 1000000) : callR X ⟨f, []⟩ 69 [v, .int .u8 x] h fun r h' => h' = h ∧ ∃ k, r = .int .i64 k ∧ (0 ≤ k ↔ x ∈ xs) := by
  refine callR_of rfl f69_is ?_
  simp only [f69r0, f69r1, f69r2, f69r3, f69r4, f69r5, f69r6, f69l7, f69r8, f69b]
  obtain ⟨a, c, rfl⟩ := hr.form
  repeat (first
 | refine za ?_ | refine zb ?_ | refine zc ?_ | refine zd ?_ | refine ze ?_ | refine zf ?_ | refine zg ?_ | refine zh ?_ | (refine zi ?_; try refine RgD_plain rfl ?_) | refine w_drawn rfl ?_ | refine zj ?_ | refine zl ?_
 | ((first | apply zs | (apply zt; (focus rfl)) | (apply zu; (focus rfl)) | (apply zv; (focus rfl)) | apply zx | apply zy | apply zB | apply zC | apply zD | apply zE | apply zF); (focus ((conv => lhs; simp); first | done | rfl)); first | apply zk | (apply zn; (focus rfl); try (focus (first | rfl | (simp; done)))) | (apply zo; (focus rfl)) | apply gv_u | apply gv_tt | apply gv_ff | apply gv_ft | apply gv_tf))
  refine w_loop (A := Nat) (fun i env h' => i ≤ xs.length ∧ env 0 = .slice a xs.length c ∧ env 1 = .int .u8 x ∧ env 7 = .int .i64 xs.length ∧ env 8 = .int .i64 i ∧ h' = h ∧ (x ∈ xs ↔ x ∈ xs.drop i)) (fun i => xs.length - i) (a0 := 0) ⟨by omega, by simp, by simp, by simp, by simp, rfl, Iff.rfl⟩ ?_
  rintro i env h' ⟨hi, e0, e1, e7, e8, rfl, hs⟩
  by_cases hlt : i < xs.length
  · obtain ⟨s, hx, hd⟩ := elem_at hlt
    obtain ⟨b, o, cs, rfl, hb, hc, hga⟩ := hr.bytes (by omega)
    have hg := hga i s hx
    have w1 := wadd (i := i) (by omega)
    rw [hd] at hs
    by_cases hst : x = s
    · have hst' : ((x : Int) == s) = true := by simp [hst]
      clear hd hx hr hga
      repeat (first
 | refine za ?_ | refine zb ?_ | refine zc ?_ | refine zd ?_ | refine ze ?_ | refine zf ?_ | refine zg ?_ | refine zh ?_ | (refine zi ?_; try refine RgD_plain rfl ?_) | refine w_drawn rfl ?_ | refine zj ?_ | refine zl ?_
 | ((first | apply zs | (apply zt; (focus rfl)) | (apply zu; (focus rfl)) | (apply zv; (focus rfl)) | apply zx | apply zy | apply zB | apply zC | apply zD | apply zE | apply zF); (focus ((conv => lhs; simp [e0, e1, e7, e8, hlt, hc, hg, w1, hst']); first | done | rfl)); first | apply zk | (apply zn; (focus rfl); try (focus (first | rfl | (simp [e0, e1, e7, e8, hlt, hc, hg, w1, hst']; done)))) | (apply zo; (focus rfl)) | apply gv_u | apply gv_tt | apply gv_ff | apply gv_ft | apply gv_tf))
      exact ⟨rfl, i, rfl, by rw [hs]; simp [hst]⟩
    · have hst' : ((x : Int) == s) = false := by simp; omega
      clear hd hx hr hga
      repeat (first
 | refine za ?_ | refine zb ?_ | refine zc ?_ | refine zd ?_ | refine ze ?_ | refine zf ?_ | refine zg ?_ | refine zh ?_ | (refine zi ?_; try refine RgD_plain rfl ?_) | refine w_drawn rfl ?_ | refine zj ?_ | refine zl ?_
 | ((first | apply zs | (apply zt; (focus rfl)) | (apply zu; (focus rfl)) | (apply zv; (focus rfl)) | apply zx | apply zy | apply zB | apply zC | apply zD | apply zE | apply zF); (focus ((conv => lhs; simp [e0, e1, e7, e8, hlt, hc, hg, w1, hst']); first | done | rfl)); first | apply zk | (apply zn; (focus rfl); try (focus (first | rfl | (simp [e0, e1, e7, e8, hlt, hc, hg, w1, hst']; done)))) | (apply zo; (focus rfl)) | apply gv_u | apply gv_tt | apply gv_ff | apply gv_ft | apply gv_tf))
      exact ⟨i + 1, ⟨by omega, by simp [e0], by simp [e1], by simp [e7], by simp, rfl, by rw [hs]; simp [hst]⟩, by omega⟩
  · repeat (first
 | refine za ?_ | refine zb ?_ | refine zc ?_ | refine zd ?_ | refine ze ?_ | refine zf ?_ | refine zg ?_ | refine zh ?_ | (refine zi ?_; try refine RgD_plain rfl ?_) | refine w_drawn rfl ?_ | refine zj ?_ | refine zl ?_
 | ((first | apply zs | (apply zt; (focus rfl)) | (apply zu; (focus rfl)) | (apply zv; (focus rfl)) | apply zx | apply zy | apply zB | apply zC | apply zD | apply zE | apply zF); (focus ((conv => lhs; simp [e0, e1, e7, e8, hlt]); first | done | rfl)); first | apply zk | (apply zn; (focus rfl); try (focus (first | rfl | (simp [e0, e1, e7, e8, hlt]; done)))) | (apply zo; (focus rfl)) | apply gv_u | apply gv_tt | apply gv_ff | apply gv_ft | apply gv_tf))
    refine ⟨rfl, -1, rfl, ?_⟩
    rw [hs, List.drop_eq_nil_of_le (by omega)]; simp
theorem contains_runs {v : Value} {xs : List Nat} {x : Nat} (hr : BRow h v xs) (hl : xs.length ≤ 1000000) : Runs X ⟨f, []⟩ 55 [v, .int .u8 x] h (.bool (decide (x ∈ xs))) h := by
  refine Runs_of rfl f55_is ?_
  simp only [f55r0, f55r1, f55b]
  repeat (first
 | refine za ?_ | refine zb ?_ | refine zc ?_ | refine zd ?_ | refine ze ?_ | refine zf ?_ | refine zg ?_ | refine zh ?_ | (refine zi ?_; try refine RgD_plain rfl ?_) | refine w_drawn rfl ?_ | refine zj ?_ | refine zl ?_
 | ((first | apply zs | (apply zt; (focus rfl)) | (apply zu; (focus rfl)) | (apply zv; (focus rfl)) | apply zx | apply zy | apply zB | apply zC | apply zD | apply zE | apply zF); (focus ((conv => lhs; simp); first | done | rfl)); first | apply zk | (apply zn; (focus rfl); try (focus (first | rfl | (simp; done)))) | (apply zo; (focus rfl)) | apply gv_u | apply gv_tt | apply gv_ff | apply gv_ft | apply gv_tf))
  (apply zW; (focus ((conv => lhs; simp); first | done | rfl)); (focus exact index_runs hr hl)); intro v' h' q
  obtain ⟨rfl, k, rfl, hk⟩ := q
  repeat (first
 | refine za ?_ | refine zb ?_ | refine zc ?_ | refine zd ?_ | refine ze ?_ | refine zf ?_ | refine zg ?_ | refine zh ?_ | (refine zi ?_; try refine RgD_plain rfl ?_) | refine w_drawn rfl ?_ | refine zj ?_ | refine zl ?_
 | ((first | apply zs | (apply zt; (focus rfl)) | (apply zu; (focus rfl)) | (apply zv; (focus rfl)) | apply zx | apply zy | apply zB | apply zC | apply zD | apply zE | apply zF); (focus ((conv => lhs; simp); first | done | rfl)); first | apply zk | (apply zn; (focus rfl); try (focus (first | rfl | (simp; done)))) | (apply zo; (focus rfl)) | apply gv_u | apply gv_tt | apply gv_ff | apply gv_ft | apply gv_tf))
  rw [tup_one]; congr 1; simp [hk]
end Go.Proofs.YtmjaanhphkbkeaaGreat
end
