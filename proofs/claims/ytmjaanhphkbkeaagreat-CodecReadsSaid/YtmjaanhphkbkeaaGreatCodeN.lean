import Derived.Test.YtmjaanhphkbkeaaGreatCodeM
import Derived.Laws.Strings
set_option linter.all false
section
namespace Go.Proofs.YtmjaanhphkbkeaaGreat
open Go.AM
set_option linter.unusedSimpArgs false
set_option linter.unusedVariables false
variable {f : Nat} {h : Heap}
/-! ### texts of bytes -/
theorem strB_ext {l : List Nat} {i j : Nat} : (strB l).extract i j = strB ((l.drop i).take (j - i)) := by
  apply ByteArray.ext
  simp [strB, List.map_take, List.map_drop]
  try rw [← List.extract_eq_take_drop]
theorem u8_nat {x : Nat} (h : x < 256) : (UInt8.ofNat x).toNat = x := by simp; omega
theorem strB_get {l : List Nat} {j x : Nat} (h : l[j]? = some x) : (strB l).data[j]? = some (UInt8.ofNat x) := by
  simp [strB, h]
theorem strB_inj {a b : List Nat} (ha : ∀ x ∈ a, x < 256) (hb : ∀ x ∈ b, x < 256) (e : strB a = strB b) : a = b := by
  have e1 : a.map UInt8.ofNat = b.map UInt8.ofNat := by
    have := congrArg (fun s : ByteArray => s.data.toList) e
    simpa [strB] using this
  have h1 : (a.map UInt8.ofNat).map UInt8.toNat = a := by
    rw [List.map_map]; conv => rhs; rw [← List.map_id a]
    exact List.map_congr_left fun x hx => u8_nat (ha x hx)
  have h2 : (b.map UInt8.ofNat).map UInt8.toNat = b := by
    rw [List.map_map]; conv => rhs; rw [← List.map_id b]
    exact List.map_congr_left fun x hx => u8_nat (hb x hx)
  rw [← h1, e1, h2]
theorem str_eq {a b : List Nat} (ha : ∀ x ∈ a, x < 256) (hb : ∀ x ∈ b, x < 256) : ((strB a).toList == (strB b).toList) = decide (a = b) := by
  rw [Bool.eq_iff_iff]
  simp only [beq_iff_eq, decide_eq_true_eq]
  constructor
  · intro e
    rw [ByteArray.toList_eq, ByteArray.toList_eq] at e
    exact strB_inj ha hb (by apply ByteArray.ext; exact Array.ext' e)
  · rintro rfl; rfl
def lead (l : List Nat) : Nat := (l.takeWhile (fun b => decide (128 ≤ b))).length
theorem lead_cons {b : Nat} {r : List Nat} : lead (b :: r) = if b < 128 then 0 else lead r + 1 := by
  unfold lead
  by_cases h : b < 128
  · rw [if_pos h, List.takeWhile_cons_of_neg (by simp; omega)]; rfl
  · rw [if_neg h, List.takeWhile_cons_of_pos (by simp; omega)]; rfl
theorem lead_le (l : List Nat) : lead l ≤ l.length := (List.takeWhile_prefix _).length_le
theorem lead_at : ∀ (l : List Nat) (i b : Nat), l[i]? = some b → i < lead l → 128 ≤ b
  | [], i, b, h, hi => by simp at h
  | a :: r, 0, b, h, hi => by
    simp at h; subst h
    rw [lead_cons] at hi; split at hi <;> omega
  | a :: r, i + 1, b, h, hi => by
    rw [lead_cons] at hi
    split at hi
    · omega
    · exact lead_at r i b (by simpa using h) (by omega)
theorem lead_low : ∀ (l : List Nat) (b : Nat), l[lead l]? = some b → b < 128
  | [], b, h => by simp at h
  | a :: r, b, h => by
    rw [lead_cons] at h
    split at h
    · simp at h; omega
    · exact lead_low r b (by simpa using h)
theorem getU_lead : ∀ (n : Nat) (l : List Nat), getU n l = if lead l < l.length ∧ lead l < n then some (valB (l.take (lead l + 1)), lead l + 1) else none
  | 0, l => by simp [getU]
  | n + 1, [] => by simp [getU, lead]
  | n + 1, b :: r => by
    rw [getU, lead_cons]
    by_cases h : b < 128
    · simp [h, valB, Nat.mod_eq_of_lt h]
    · rw [if_neg h, if_neg h, getU_lead n r]
      by_cases h2 : lead r < r.length ∧ lead r < n
      · rw [if_pos h2, if_pos (by simp; omega)]; simp [valB]
      · rw [if_neg h2, if_neg (by simp; omega)]; rfl
set_option maxHeartbeats 4000000 in
theorem readNum2_runs {l : List Nat} (hl : l.length ≤ 100000) (hby : ∀ b ∈ l, b < 256) : Runs X ⟨f, []⟩ 40 [.string (strB l)] h (.tuple #[.int .i64 (readNum l).1, .int .i64 (readNum l).2]) h := by
  refine Runs_of rfl f40_is ?_
  have hll := lead_le l
  have second : ∀ (env : Env), lead l < l.length → lead l < 10 → env 0 = .string (strB l) → env 4 = .int .i64 ((lead l : Nat) + 1) →
      Ok X ⟨h.size, []⟩ (.seq (.reg f40r7) (.seq (.seq (.reg f40r8) (.block 2 (.loop f40l12))) (.seq (.reg f40r13) (.seq (.seq (.reg f40r14) (.cond (.t 48) (.reg f40r15) .skip)) (.seq (.seq (.regD f40r16 [(0, []), (2, []), (3, []), (4, []), (1, [4]), (5, [])]) (.cond (.t 57) (.seq (.reg f40r17) .ret) .skip)) (.seq (.reg f40r18) .ret)))))) env h (EndsQ [.tmp 2, .tmp 3] .pure h (.tuple #[.int .i64 (readNum l).1, .int .i64 (readNum l).2]) h) := by
    intro env hlt h10 e0 e4
    generalize hR : (ACode.seq (.seq (.regD f40r16 _) _) (.seq (.reg f40r18) .ret)) = REST
    simp only [f40r0, f40r1, f40r2, f40r3, f40l4, f40r5, f40r6, f40r7, f40r8, f40r9, f40r10, f40r11, f40l12, f40r13, f40r14, f40r15, f40r16, f40r17, f40r18, f40b]
    have w1 : IntKind.i64.wrap ((lead l : Int) + 1 - 1) = (lead l : Int) := by rw [wrapI (by omega)]; omega
    have w2 : IntKind.i64.wrap (lead l : Int) = (lead l : Int) := wrapI (by omega)
    repeat (first
 | refine za ?_ | refine zb ?_ | refine zc ?_ | refine zd ?_ | refine ze ?_ | refine zf ?_ | refine zg ?_ | refine zh ?_ | (refine zi ?_; try refine RgD_plain rfl ?_) | refine w_drawn rfl ?_ | refine zj ?_ | refine zl ?_
 | ((first | apply zs | (apply zt; (focus rfl)) | (apply zu; (focus rfl)) | (apply zv; (focus rfl)) | apply zx | apply zy | apply zB | apply zC | apply zD | apply zE | apply zF); (focus ((conv => lhs; simp [e0, e4, w1, w2]); first | done | rfl)); first | apply zk | (apply zn; (focus rfl); try (focus (first | rfl | (simp [e0, e4, w1, w2]; done)))) | (apply zo; (focus rfl)) | apply gv_u | apply gv_tt | apply gv_ff | apply gv_ft | apply gv_tf))
    generalize hpx : l.take (lead l + 1) = px
    have hpl : px.length = lead l + 1 := by rw [← hpx, List.length_take]; omega
    refine w_loop (A := Nat) (fun j env h' => j ≤ lead l + 1 ∧ env 0 = .string (strB l) ∧ env 4 = .int .i64 ((lead l : Nat) + 1) ∧ env 6 = .int .i64 ((j : Nat) - 1) ∧ env 5 = .int .u64 ((valB (px.drop j) % 2 ^ 64 : Nat) : Int) ∧ h' = h) (fun j => j) (a0 := lead l + 1)
      ⟨by omega, by simp [e0], by simp [e4], by simp [w2], by simp [List.drop_of_length_le (show px.length ≤ lead l + 1 by omega), valB], rfl⟩ ?_
    rintro j env1 h' ⟨hj, e0, e4, e6, e5, rfl⟩
    by_cases hj0 : j = 0
    · subst hj0
      have hm1 : ((0 : Nat) : Int) - 1 = -1 := by omega
      rw [hm1] at e6
      rw [List.drop_zero] at e5
      have hgu : getU 10 l = some (valB px, lead l + 1) := by rw [getU_lead, if_pos ⟨hlt, h10⟩, hpx]
      obtain ⟨u, hu⟩ : ∃ u, u = valB px % 2 ^ 64 := ⟨_, rfl⟩
      have hu64 : u < 2 ^ 64 := by rw [hu]; exact Nat.mod_lt _ (by decide)
      rw [← hu] at e5
      have hrd : readNum l = if numB u = px then (unzig u, lead l + 1) else (0, 0) := by rw [readNum, hgu]; simp only [← hu, hpx]
      have q1 : IntKind.u64.wrap ((u : Int).tdiv 2) = ((u / 2 : Nat) : Int) := by rw [wrap64u, Int.tdiv_eq_ediv_of_nonneg (by omega)]; omega
      have q1' : IntKind.u64.wrap ((u : Int) / 2) = ((u / 2 : Nat) : Int) := by rw [wrap64u]; omega
      have q2 : IntKind.i64.wrap ((u / 2 : Nat) : Int) = ((u / 2 : Nat) : Int) := wrapI (by omega)
      have q2' : IntKind.i64.wrap ((u : Int) / 2) = (u : Int) / 2 := wrapI (by omega)
      have hrng := unzig_rng hu64
      have hpb : ∀ x ∈ px, x < 256 := fun x hx => hby x (List.mem_of_mem_take (by rw [hpx]; exact hx))
      have hseq := str_eq (a := numB u) (b := px) (fun x hx => numB_byte _ x hx) hpb
      have hn2 := num2_runs (f := h'.size) (h := h') hrng
      rw [zig_unzig] at hn2
      have hle : (lead l : Int) + 1 ≤ l.length := by omega
      have hle0 : (0 : Int) ≤ (lead l : Int) + 1 := by omega
      have htn : ((lead l : Int) + 1).toNat = lead l + 1 := by omega
      obtain ⟨k, hk⟩ : ∃ k, k = u / 2 := ⟨_, rfl⟩
      rw [← hk] at q1 q1' q2
      have fin : ∀ (env2 : Env), env2 0 = .string (strB l) → env2 4 = .int .i64 ((lead l : Nat) + 1) → env2 7 = .int .i64 (unzig u) →
          Ok X ⟨h'.size, []⟩ (.seq (.seq (.regD f40r16 [(0, []), (2, []), (3, []), (4, []), (1, [4]), (5, [])]) (.cond (.t 57) (.seq (.reg f40r17) .ret) .skip)) (.seq (.reg f40r18) .ret)) env2 h' (EndsQ [.tmp 2, .tmp 3] .pure h' (.tuple #[.int .i64 (readNum l).1, .int .i64 (readNum l).2]) h') := by
        intro env2 f0 f4 f7
        simp only [f40r0, f40r1, f40r2, f40r3, f40l4, f40r5, f40r6, f40r7, f40r8, f40r9, f40r10, f40r11, f40l12, f40r13, f40r14, f40r15, f40r16, f40r17, f40r18, f40b]
        rw [hrd]
        by_cases heq : numB u = px
        · rw [if_pos heq]
          have hs2 : ((strB (numB u)).toList == (strB px).toList) = true := by rw [hseq]; exact decide_eq_true heq
          have hne : binS .neq (strB (numB u)) (strB px) = some (.bool false) := by simp only [binS, hs2]; rfl
          repeat (first
 | refine za ?_ | refine zb ?_ | refine zc ?_ | refine zd ?_ | refine ze ?_ | refine zf ?_ | refine zg ?_ | refine zh ?_ | (refine zi ?_; try refine RgD_plain rfl ?_) | refine w_drawn rfl ?_ | refine zj ?_ | refine zl ?_
 | ((first | apply zs | (apply zt; (focus rfl)) | (apply zu; (focus rfl)) | (apply zv; (focus rfl)) | apply zw | apply zx | apply zy | apply zB | apply zC | apply zD | apply zE | apply zF); (focus ((conv => lhs; simp [f0, f4, f7, bound, strB_ext, hle, hle0, htn, hpx, hne]); first | done | rfl)); first | apply zk | (apply zn; (focus rfl); try (focus (first | rfl | (simp [f0, f4, f7, bound, strB_ext, hle, hle0, htn, hpx, hne]; done)))) | (apply zo; (focus rfl)) | apply gv_u | apply gv_tt | apply gv_ff | apply gv_ft | apply gv_tf | exact hn2))
        · rw [if_neg heq]
          have hs2 : ((strB (numB u)).toList == (strB px).toList) = false := by rw [hseq]; exact decide_eq_false heq
          have hne : binS .neq (strB (numB u)) (strB px) = some (.bool true) := by simp only [binS, hs2]; rfl
          repeat (first
 | refine za ?_ | refine zb ?_ | refine zc ?_ | refine zd ?_ | refine ze ?_ | refine zf ?_ | refine zg ?_ | refine zh ?_ | (refine zi ?_; try refine RgD_plain rfl ?_) | refine w_drawn rfl ?_ | refine zj ?_ | refine zl ?_
 | ((first | apply zs | (apply zt; (focus rfl)) | (apply zu; (focus rfl)) | (apply zv; (focus rfl)) | apply zw | apply zx | apply zy | apply zB | apply zC | apply zD | apply zE | apply zF); (focus ((conv => lhs; simp [f0, f4, f7, bound, strB_ext, hle, hle0, htn, hpx, hne]); first | done | rfl)); first | apply zk | (apply zn; (focus rfl); try (focus (first | rfl | (simp [f0, f4, f7, bound, strB_ext, hle, hle0, htn, hpx, hne]; done)))) | (apply zo; (focus rfl)) | apply gv_u | apply gv_tt | apply gv_ff | apply gv_ft | apply gv_tf | exact hn2))
      have hge : ¬ (0 : Int) ≤ -1 := by omega
      by_cases hodd : u % 2 = 1
      · have r1 : (u : Int).tmod 2 = 1 := by rw [Int.tmod_eq_emod_of_nonneg (by omega)]; omega
        have q3 : IntKind.i64.wrap (-(k : Int)) = -(k : Int) := wrapI (by omega)
        have q4 : IntKind.i64.wrap (-(k : Int) - 1) = unzig u := by
          rw [wrapI (by omega), unzig, if_neg (by omega), hk]
        repeat (first
 | refine za ?_ | refine zb ?_ | refine zc ?_ | refine zd ?_ | refine ze ?_ | refine zf ?_ | refine zg ?_ | refine zh ?_ | (refine zi ?_; try refine RgD_plain rfl ?_) | refine w_drawn rfl ?_ | refine zj ?_ | refine zl ?_
 | ((first | apply zs | (apply zt; (focus rfl)) | (apply zu; (focus rfl)) | (apply zv; (focus rfl)) | apply zx | apply zy | apply zB | apply zC | apply zD | apply zE | apply zF); (focus ((conv => lhs; simp [e0, e4, e6, e5, q1, q1', q2, r1, q3, q4]); first | done | rfl)); first | apply zk | (apply zn; (focus rfl); try (focus (first | rfl | (simp [e0, e4, e6, e5, q1, q1', q2, r1, q3, q4]; done)))) | (apply zo; (focus rfl)) | apply gv_u | apply gv_tt | apply gv_ff | apply gv_ft | apply gv_tf))
        rw [← hR]
        refine fin _ ?_ ?_ ?_
        · simp [e0]
        · simp [e4]
        · simp [q4]
      · have r1 : (u : Int).tmod 2 = 0 := by rw [Int.tmod_eq_emod_of_nonneg (by omega)]; omega
        have q4 : (k : Int) = unzig u := by rw [unzig, if_pos (by omega), hk]
        repeat (first
 | refine za ?_ | refine zb ?_ | refine zc ?_ | refine zd ?_ | refine ze ?_ | refine zf ?_ | refine zg ?_ | refine zh ?_ | (refine zi ?_; try refine RgD_plain rfl ?_) | refine w_drawn rfl ?_ | refine zj ?_ | refine zl ?_
 | ((first | apply zs | (apply zt; (focus rfl)) | (apply zu; (focus rfl)) | (apply zv; (focus rfl)) | apply zx | apply zy | apply zB | apply zC | apply zD | apply zE | apply zF); (focus ((conv => lhs; simp [e0, e4, e6, e5, q1, q1', q2, r1]); first | done | rfl)); first | apply zk | (apply zn; (focus rfl); try (focus (first | rfl | (simp [e0, e4, e6, e5, q1, q1', q2, r1]; done)))) | (apply zo; (focus rfl)) | apply gv_u | apply gv_tt | apply gv_ff | apply gv_ft | apply gv_tf))
        rw [← hR]
        refine fin _ ?_ ?_ ?_
        · simp [e0]
        · simp [e4]
        · simp [q4]
    · obtain ⟨b, hb, hd⟩ := elem_at (xs := px) (i := j - 1) (by omega)
      have hb2 : l[j - 1]? = some b := by rw [← hpx, List.getElem?_take, if_pos (by omega)] at hb; exact hb
      have hb256 := hby b (List.mem_of_getElem? hb2)
      have hjm : ((j : Nat) : Int) - 1 = ((j - 1 : Nat) : Int) := by omega
      rw [hjm] at e6
      have hg := strB_get hb2
      have ht := u8_nat hb256
      have hd' : px.drop (j - 1) = b :: px.drop j := by rw [hd]; congr 2; omega
      have w3 : IntKind.i64.wrap (((j - 1 : Nat) : Int) - 1) = ((j - 1 : Nat) : Int) - 1 := wrapI (by omega)
      obtain ⟨y, hy⟩ : ∃ y, y = valB (px.drop j) % 2 ^ 64 := ⟨_, rfl⟩
      rw [← hy] at e5
      have hstep : IntKind.u64.wrap (IntKind.u64.wrap ((y : Int) * 128) + ((b % 128 : Nat) : Int)) = ((valB (px.drop (j - 1)) % 2 ^ 64 : Nat) : Int) := by
        rw [hd', valB, wrap64u, wrap64u, hy]; omega
      have hr1 : (b : Int).tmod 128 = ((b % 128 : Nat) : Int) := by rw [Int.tmod_eq_emod_of_nonneg (by omega)]; omega
      have hr2 : IntKind.u64.wrap ((b % 128 : Nat) : Int) = ((b % 128 : Nat) : Int) := by rw [wrap64u]; omega
      obtain ⟨c, hc⟩ : ∃ c, c = b % 128 := ⟨_, rfl⟩
      rw [← hc] at hstep hr1 hr2
      repeat (first
 | refine za ?_ | refine zb ?_ | refine zc ?_ | refine zd ?_ | refine ze ?_ | refine zf ?_ | refine zg ?_ | refine zh ?_ | (refine zi ?_; try refine RgD_plain rfl ?_) | refine w_drawn rfl ?_ | refine zj ?_ | refine zl ?_
 | ((first | apply zs | (apply zt; (focus rfl)) | (apply zu; (focus rfl)) | (apply zv; (focus rfl)) | apply zx | apply zy | apply zB | apply zC | apply zD | apply zE | apply zF); (focus ((conv => lhs; simp [e0, e4, e6, e5, hg, ht, w3, hr1, hr2, hstep]); first | done | rfl)); first | apply zk | (apply zn; (focus rfl); try (focus (first | rfl | (simp [e0, e4, e6, e5, hg, ht, w3, hr1, hr2, hstep]; done)))) | (apply zo; (focus rfl)) | apply gv_u | apply gv_tt | apply gv_ff | apply gv_ft | apply gv_tf))
      exact ⟨j - 1, ⟨by omega, by simp [e0], by simp [e4], by simp, by simp, rfl⟩, by omega⟩
  simp only [f40b]
  generalize hR : (ACode.seq (.reg f40r7) _) = REST
  simp only [f40r0, f40r1, f40r2, f40r3, f40l4, f40r5, f40r6, f40r7, f40r8, f40r9, f40r10, f40r11, f40l12, f40r13, f40r14, f40r15, f40r16, f40r17, f40r18, f40b]
  repeat (first
 | refine za ?_ | refine zb ?_ | refine zc ?_ | refine zd ?_ | refine ze ?_ | refine zf ?_ | refine zg ?_ | refine zh ?_ | (refine zi ?_; try refine RgD_plain rfl ?_) | refine w_drawn rfl ?_ | refine zj ?_ | refine zl ?_
 | ((first | apply zs | (apply zt; (focus rfl)) | (apply zu; (focus rfl)) | (apply zv; (focus rfl)) | apply zx | apply zy | apply zB | apply zC | apply zD | apply zE | apply zF); (focus ((conv => lhs; simp); first | done | rfl)); first | apply zk | (apply zn; (focus rfl); try (focus (first | rfl | (simp; done)))) | (apply zo; (focus rfl)) | apply gv_u | apply gv_tt | apply gv_ff | apply gv_ft | apply gv_tf))
  refine w_loop (A := Nat) (fun i env h' => i ≤ lead l ∧ env 0 = .string (strB l) ∧ env 4 = .int .i64 ((i : Nat) + 1) ∧ h' = h) (fun i => lead l - i) (a0 := 0) ⟨by omega, by simp, by simp, rfl⟩ ?_
  rintro i env h' ⟨hi, e0, e4, rfl⟩
  have w1 : IntKind.i64.wrap ((i : Int) + 1 - 1) = (i : Int) := by rw [wrapI (by omega)]; omega
  have w1' : IntKind.i64.wrap (i : Int) = (i : Int) := wrapI (by omega)
  have w2 : IntKind.i64.wrap ((i : Int) + 1 + 1) = ((i + 1 : Nat) : Int) + 1 := by rw [wrapI (by omega)]; omega
  by_cases hlt : i < l.length
  · obtain ⟨b, hb, _⟩ := elem_at hlt
    have hb256 := hby b (List.mem_of_getElem? hb)
    have hg := strB_get hb
    have ht := u8_nat hb256
    have hle : (i : Int) + 1 ≤ l.length := by omega
    by_cases hil : i < lead l
    · have h128 := lead_at l i b hb hil
      have t1 : decide ((128 : Int) ≤ b) = true := by simp; omega
      repeat (first
 | refine za ?_ | refine zb ?_ | refine zc ?_ | refine zd ?_ | refine ze ?_ | refine zf ?_ | refine zg ?_ | refine zh ?_ | (refine zi ?_; try refine RgD_plain rfl ?_) | refine w_drawn rfl ?_ | refine zj ?_ | refine zl ?_
 | ((first | apply zs | (apply zt; (focus rfl)) | (apply zu; (focus rfl)) | (apply zv; (focus rfl)) | apply zx | apply zy | apply zB | apply zC | apply zD | apply zE | apply zF); (focus ((conv => lhs; simp [e0, e4, w1, w1', w2, hle, hg, ht, t1]); first | done | rfl)); first | apply zk | (apply zn; (focus rfl); try (focus (first | rfl | (simp [e0, e4, w1, w1', w2, hle, hg, ht, t1]; done)))) | (apply zo; (focus rfl)) | apply gv_u | apply gv_tt | apply gv_ff | apply gv_ft | apply gv_tf))
      exact ⟨i + 1, ⟨by omega, by simp [e0], by simp, rfl⟩, by omega⟩
    · have hil' : i = lead l := by omega
      have hb2 : l[lead l]? = some b := by rw [← hil']; exact hb
      have h128 := lead_low l b hb2
      have t1 : decide ((128 : Int) ≤ b) = false := by simp; omega
      have t2 : decide ((l.length : Int) < (i : Int) + 1) = false := by simp; omega
      by_cases h10 : i < 10
      · have t3 : decide ((10 : Int) < (i : Int) + 1) = false := by simp; omega
        repeat (first
 | refine za ?_ | refine zb ?_ | refine zc ?_ | refine zd ?_ | refine ze ?_ | refine zf ?_ | refine zg ?_ | refine zh ?_ | (refine zi ?_; try refine RgD_plain rfl ?_) | refine w_drawn rfl ?_ | refine zj ?_ | refine zl ?_
 | ((first | apply zs | (apply zt; (focus rfl)) | (apply zu; (focus rfl)) | (apply zv; (focus rfl)) | apply zx | apply zy | apply zB | apply zC | apply zD | apply zE | apply zF); (focus ((conv => lhs; simp [e0, e4, w1, w1', w2, hle, hg, ht, t1, t2, t3]); first | done | rfl)); first | apply zk | (apply zn; (focus rfl); try (focus (first | rfl | (simp [e0, e4, w1, w1', w2, hle, hg, ht, t1, t2, t3]; done)))) | (apply zo; (focus rfl)) | apply gv_u | apply gv_tt | apply gv_ff | apply gv_ft | apply gv_tf))
        rw [← hR]
        refine second _ (by omega) (by omega) ?_ ?_
        · simp [e0]
        · simp [e4, hil']
      · have t3 : decide ((10 : Int) < (i : Int) + 1) = true := by simp; omega
        have e : readNum l = (0, 0) := by rw [readNum, getU_lead, if_neg (by omega)]
        rw [e]
        repeat (first
 | refine za ?_ | refine zb ?_ | refine zc ?_ | refine zd ?_ | refine ze ?_ | refine zf ?_ | refine zg ?_ | refine zh ?_ | (refine zi ?_; try refine RgD_plain rfl ?_) | refine w_drawn rfl ?_ | refine zj ?_ | refine zl ?_
 | ((first | apply zs | (apply zt; (focus rfl)) | (apply zu; (focus rfl)) | (apply zv; (focus rfl)) | apply zx | apply zy | apply zB | apply zC | apply zD | apply zE | apply zF); (focus ((conv => lhs; simp [e0, e4, w1, w1', w2, hle, hg, ht, t1, t2, t3]); first | done | rfl)); first | apply zk | (apply zn; (focus rfl); try (focus (first | rfl | (simp [e0, e4, w1, w1', w2, hle, hg, ht, t1, t2, t3]; done)))) | (apply zo; (focus rfl)) | apply gv_u | apply gv_tt | apply gv_ff | apply gv_ft | apply gv_tf))
  · have hle : ¬ (i : Int) + 1 ≤ l.length := by omega
    have t2 : decide ((l.length : Int) < (i : Int) + 1) = true := by simp; omega
    have e : readNum l = (0, 0) := by rw [readNum, getU_lead, if_neg (by omega)]
    rw [e]
    repeat (first
 | refine za ?_ | refine zb ?_ | refine zc ?_ | refine zd ?_ | refine ze ?_ | refine zf ?_ | refine zg ?_ | refine zh ?_ | (refine zi ?_; try refine RgD_plain rfl ?_) | refine w_drawn rfl ?_ | refine zj ?_ | refine zl ?_
 | ((first | apply zs | (apply zt; (focus rfl)) | (apply zu; (focus rfl)) | (apply zv; (focus rfl)) | apply zx | apply zy | apply zB | apply zC | apply zD | apply zE | apply zF); (focus ((conv => lhs; simp [e0, e4, w1, w1', w2, hle, t2]); first | done | rfl)); first | apply zk | (apply zn; (focus rfl); try (focus (first | rfl | (simp [e0, e4, w1, w1', w2, hle, t2]; done)))) | (apply zo; (focus rfl)) | apply gv_u | apply gv_tt | apply gv_ff | apply gv_ft | apply gv_tf))
end Go.Proofs.YtmjaanhphkbkeaaGreat
end

section
namespace Go.Proofs.YtmjaanhphkbkeaaGreat
open Go.AM
set_option linter.unusedSimpArgs false
set_option linter.unusedVariables false
variable {f : Nat} {h : Heap}
@[simp] theorem size_le2 {n : Nat} : (n ≤ n + 1 + 1) = True := by simp <;> omega
@[simp] theorem size_le3 {n : Nat} : (n ≤ n + 1 + 1 + 1) = True := by simp <;> omega
@[simp] theorem size_le4 {n : Nat} : (n ≤ n + 1 + 1 + 1 + 1) = True := by simp <;> omega
theorem rightC0 {n : Int} : rightC (0, n) = !(n == -9223372036854775808) := by
  by_cases h : n = -9223372036854775808
  · simp [rightC, canon, h]
  · simp [rightC, canon, h]
theorem readCut2_runs {l : List Nat} (hl : l.length ≤ 100000) (hby : ∀ b ∈ l, b < 256) : Runs X ⟨f, []⟩ 58 [.string (strB l)] h (.tuple #[.agg #[.int .i64 (readCut l).1.1, .int .i64 (readCut l).1.2], .int .i64 (readCut l).2]) h := by
  refine Runs_of rfl f58_is ?_
  simp only [f58r0, f58r1, f58r2, f58r3, f58r4, f58r5, f58r6, f58r7, f58r8, f58r9, f58r10, f58b]
  cases l with
  | nil =>
    have e0 : binS .eql (strB []) ⟨#[]⟩ = some (.bool true) := by
      have : (strB []) = ⟨#[]⟩ := rfl
      simp [binS, this]
    repeat (first
 | refine za ?_ | refine zb ?_ | refine zc ?_ | refine zd ?_ | refine ze ?_ | refine zf ?_ | refine zg ?_ | refine zh ?_ | (refine zi ?_; try refine RgD_plain rfl ?_) | refine w_drawn rfl ?_ | refine zj ?_ | refine zl ?_
 | ((first | apply zs | (apply zt; (focus rfl)) | (apply zu; (focus rfl)) | (apply zv; (focus rfl)) | apply zx | apply zy | apply zB | apply zC | apply zD | apply zE | apply zF); (focus ((conv => lhs; simp [e0]); first | done | rfl)); first | apply zk | (apply zn; (focus rfl); try (focus (first | rfl | (simp [e0]; done)))) | (apply zo; (focus rfl)) | apply gv_u | apply gv_tt | apply gv_ff | apply gv_ft | apply gv_tf))
  | cons b r =>
    obtain ⟨L, hL⟩ : ∃ L, L = b :: r := ⟨_, rfl⟩
    have e0 : binS .eql (strB L) ⟨#[]⟩ = some (.bool false) := by
      have : (⟨#[]⟩ : ByteArray) = strB [] := rfl
      simp only [binS]
      rw [hL, this, str_eq hby (by simp)]; simp
    have hg : (strB L).data[0]? = some (UInt8.ofNat b) := by rw [hL]; exact strB_get rfl
    have hL1 : List.take (L.length - 1) L.tail = r := by rw [hL]; simp
    have hL2 : 1 ≤ L.length := by rw [hL]; simp
    have hL3 : (1 : Int) ≤ L.length := by omega
    have ht := u8_nat (hby b (by simp))
    have hrl := readNum_len r
    have hlr : r.length ≤ 100000 := by simp at hl; omega
    by_cases hb2 : b > 2
    · have e : readCut (b :: r) = ((0, 0), 0) := by rw [readCut, if_neg (by omega), if_neg (by omega), if_neg (by omega)]
      have t0 : decide ((2 : Int) < b) = true := by simp; omega
      rw [e, ← hL]
      repeat (first
 | refine za ?_ | refine zb ?_ | refine zc ?_ | refine zd ?_ | refine ze ?_ | refine zf ?_ | refine zg ?_ | refine zh ?_ | (refine zi ?_; try refine RgD_plain rfl ?_) | refine w_drawn rfl ?_ | refine zj ?_ | refine zl ?_
 | ((first | apply zs | (apply zt; (focus rfl)) | (apply zu; (focus rfl)) | (apply zv; (focus rfl)) | apply zx | apply zy | apply zB | apply zC | apply zD | apply zE | apply zF); (focus ((conv => lhs; simp [e0, hg, ht, t0]); first | done | rfl)); first | apply zk | (apply zn; (focus rfl); try (focus (first | rfl | (simp [e0, hg, ht, t0]; done)))) | (apply zo; (focus rfl)) | apply gv_u | apply gv_tt | apply gv_ff | apply gv_ft | apply gv_tf))
    · have t0 : decide ((2 : Int) < b) = false := by simp; omega
      by_cases b0 : b = 0
      · have e : readCut (b :: r) = ((-1, 0), 1) := by simp [readCut, b0]
        have t1 : ((b : Int) == 0) = true := by simp [b0]
        rw [e, ← hL]
        repeat (first
 | refine za ?_ | refine zb ?_ | refine zc ?_ | refine zd ?_ | refine ze ?_ | refine zf ?_ | refine zg ?_ | refine zh ?_ | (refine zi ?_; try refine RgD_plain rfl ?_) | refine w_drawn rfl ?_ | refine zj ?_ | refine zl ?_
 | ((first | apply zs | (apply zt; (focus rfl)) | (apply zu; (focus rfl)) | (apply zv; (focus rfl)) | apply zx | apply zy | apply zB | apply zC | apply zD | apply zE | apply zF); (focus ((conv => lhs; simp [e0, hg, ht, t0, t1]); first | done | rfl)); first | apply zk | (apply zn; (focus rfl); try (focus (first | rfl | (simp [e0, hg, ht, t0, t1]; done)))) | (apply zo; (focus rfl)) | apply gv_u | apply gv_tt | apply gv_ff | apply gv_ft | apply gv_tf))
      · have t1 : ((b : Int) == 0) = false := by simp; omega
        by_cases b2 : b = 2
        · have e : readCut (b :: r) = ((1, 0), 1) := by simp [readCut, b2]
          have t2 : ((b : Int) == 2) = true := by simp [b2]
          rw [e, ← hL]
          repeat (first
 | refine za ?_ | refine zb ?_ | refine zc ?_ | refine zd ?_ | refine ze ?_ | refine zf ?_ | refine zg ?_ | refine zh ?_ | (refine zi ?_; try refine RgD_plain rfl ?_) | refine w_drawn rfl ?_ | refine zj ?_ | refine zl ?_
 | ((first | apply zs | (apply zt; (focus rfl)) | (apply zu; (focus rfl)) | (apply zv; (focus rfl)) | apply zx | apply zy | apply zB | apply zC | apply zD | apply zE | apply zF); (focus ((conv => lhs; simp [e0, hg, ht, t0, t1, t2]); first | done | rfl)); first | apply zk | (apply zn; (focus rfl); try (focus (first | rfl | (simp [e0, hg, ht, t0, t1, t2]; done)))) | (apply zo; (focus rfl)) | apply gv_u | apply gv_tt | apply gv_ff | apply gv_ft | apply gv_tf))
        · have b1 : b = 1 := by omega
          have t2 : ((b : Int) == 2) = false := by simp; omega
          have hrn := readNum2_runs (f := h.size) (h := h.push (.cells [.int .i64 0, .int .i64 0] 48)) hlr (fun x hx => hby x (by simp [hx]))
          have w1 : IntKind.i64.wrap (1 + ((readNum r).2 : Int)) = 1 + ((readNum r).2 : Int) := wrapI (by omega)
          by_cases r0 : (readNum r).2 = 0
          · have e : readCut (b :: r) = ((0, 0), 0) := by rw [readCut, if_neg b0, if_neg b2, if_neg (by simp [r0])]
            have t3 : (((readNum r).2 : Int) == 0) = true := by simp; omega
            rw [e, ← hL]
            repeat (first
 | refine za ?_ | refine zb ?_ | refine zc ?_ | refine zd ?_ | refine ze ?_ | refine zf ?_ | refine zg ?_ | refine zh ?_ | (refine zi ?_; try refine RgD_plain rfl ?_) | refine w_drawn rfl ?_ | refine zj ?_ | refine zl ?_
 | ((first | apply zs | (apply zt; (focus rfl)) | (apply zu; (focus rfl)) | (apply zv; (focus rfl)) | apply zw | apply zx | apply zy | apply zB | apply zC | apply zD | apply zE | apply zF); (focus ((conv => lhs; simp [e0, hg, ht, t0, t1, t2, t3, bound, strB_ext, hL1, hL2, hL3]); first | done | rfl)); first | apply zk | (apply zn; (focus rfl); try (focus (first | rfl | (simp [e0, hg, ht, t0, t1, t2, t3, bound, strB_ext, hL1, hL2, hL3]; done)))) | (apply zo; (focus rfl)) | apply gv_u | apply gv_tt | apply gv_ff | apply gv_ft | apply gv_tf | exact hrn))
          · have t3 : (((readNum r).2 : Int) == 0) = false := by simp; omega
            cases hm : ((readNum r).1 == -9223372036854775808) with
            | true =>
              have e : readCut (b :: r) = ((0, 0), 0) := by rw [readCut, if_neg b0, if_neg b2, if_neg (by rw [rightC0, hm]; simp)]
              rw [e, ← hL]
              repeat (first
 | refine za ?_ | refine zb ?_ | refine zc ?_ | refine zd ?_ | refine ze ?_ | refine zf ?_ | refine zg ?_ | refine zh ?_ | (refine zi ?_; try refine RgD_plain rfl ?_) | refine w_drawn rfl ?_ | refine zj ?_ | refine zl ?_
 | ((first | apply zs | (apply zt; (focus rfl)) | (apply zu; (focus rfl)) | (apply zv; (focus rfl)) | apply zw | apply zx | apply zy | apply zB | apply zC | apply zD | apply zE | apply zF); (focus ((conv => lhs; simp [e0, hg, ht, t0, t1, t2, t3, hm, bound, strB_ext, hL1, hL2, hL3]); first | done | rfl)); first | apply zk | (apply zn; (focus rfl); try (focus (first | rfl | (simp [e0, hg, ht, t0, t1, t2, t3, hm, bound, strB_ext, hL1, hL2, hL3]; done)))) | (apply zo; (focus rfl)) | apply gv_u | apply gv_tt | apply gv_ff | apply gv_ft | apply gv_tf | exact hrn | exact least64_runs))
            | false =>
              have e : readCut (b :: r) = ((0, (readNum r).1), 1 + (readNum r).2) := by rw [readCut, if_neg b0, if_neg b2, if_pos ⟨b1, r0, by rw [rightC0, hm]; rfl⟩]
              rw [e, ← hL]
              repeat (first
 | refine za ?_ | refine zb ?_ | refine zc ?_ | refine zd ?_ | refine ze ?_ | refine zf ?_ | refine zg ?_ | refine zh ?_ | (refine zi ?_; try refine RgD_plain rfl ?_) | refine w_drawn rfl ?_ | refine zj ?_ | refine zl ?_
 | ((first | apply zs | (apply zt; (focus rfl)) | (apply zu; (focus rfl)) | (apply zv; (focus rfl)) | apply zw | apply zx | apply zy | apply zB | apply zC | apply zD | apply zE | apply zF); (focus ((conv => lhs; simp [e0, hg, ht, t0, t1, t2, t3, hm, bound, strB_ext, hL1, hL2, hL3, w1]); first | done | rfl)); first | apply zk | (apply zn; (focus rfl); try (focus (first | rfl | (simp [e0, hg, ht, t0, t1, t2, t3, hm, bound, strB_ext, hL1, hL2, hL3, w1]; done)))) | (apply zo; (focus rfl)) | apply gv_u | apply gv_tt | apply gv_ff | apply gv_ft | apply gv_tf | exact hrn | exact least64_runs))
def partS (l : List Nat) (m : Bool) (s : St) : Sg × St := if m then segS l s else (⟨(spanS l s).1, 0⟩, (spanS l s).2)
theorem onS_amiss {a n : Nat} : onS (a, true) n = (a, true) := by simp [onS]
theorem onS_zero {s : St} : onS s 0 = (s.1, true) := by simp [onS]
def PartOut (x : Sg) (s : St) (r : Value) : Prop := ∃ y : Sg, r = .tuple #[.agg #[.int .i64 y.s.a, .int .i64 y.s.b, .int .i64 y.s.c, .int .i64 y.s.d, .int .i64 y.v], .int .i64 s.1, .bool (!s.2)] ∧ (s.2 = false → y = x)
theorem part_runs {l : List Nat} {m : Bool} {at_ : Nat} (hl : l.length ≤ 100000) (hby : ∀ b ∈ l, b < 256) (ha : at_ ≤ l.length) :
    callR X ⟨f, []⟩ 42 [.string (strB l), .int .i64 at_, .bool m] h fun r h' => h' = h ∧ PartOut (partS l m (at_, false)).1 (partS l m (at_, false)).2 r := by
  refine callR_of rfl f42_is ?_
  simp only [f42r0, f42r1, f42r2, f42r3, f42r4, f42r5, f42r6, f42r7, f42r8, f42r9, f42r10, f42r11, f42r12, f42r13, f42r14, f42r15, f42r16, f42r17, f42b]
  have hdl : ∀ i, (l.drop i).length ≤ 100000 := fun i => by rw [List.length_drop]; omega
  have hdb : ∀ i, ∀ b ∈ l.drop i, b < 256 := fun i b hb => hby b (List.mem_of_mem_drop hb)
  have htk : ∀ i, (l.drop i).take (l.length - i) = l.drop i := fun i => List.take_of_length_le (by rw [List.length_drop]; omega)
  have hc1 := fun (hh : Heap) => readCut2_runs (f := h.size) (h := hh) (hdl at_) (hdb at_)
  obtain ⟨c1, n1, hr1⟩ : ∃ c n, readCut (l.drop at_) = (c, n) := ⟨_, _, rfl⟩
  have hlen1 := readCut_len (l.drop at_)
  rw [hr1] at hc1 hlen1
  rw [List.length_drop] at hlen1
  simp only at hc1 hlen1
  have e1 : cutS l (at_, false) = (c1, onS (at_, false) n1) := by simp only [cutS, hr1]
  by_cases hn1 : n1 = 0
  · have hs : (spanS l (at_, false)).2 = (at_, true) := by
      show (cutS l (cutS l (at_, false)).2).2 = _
      rw [e1, hn1, onS_zero]; simp only [cutS, onS_amiss]
    have hp : (partS l m (at_, false)).2 = (at_, true) := by
      cases m with
      | false => simp only [partS]; exact hs
      | true => simp only [partS, if_true, segS, numS, hs, onS_amiss]
    have t1 : ((n1 : Int) == 0) = true := by simp [hn1]
    rw [hp]
    repeat (first
 | refine za ?_ | refine zb ?_ | refine zc ?_ | refine zd ?_ | refine ze ?_ | refine zf ?_ | refine zg ?_ | refine zh ?_ | (refine zi ?_; try refine RgD_plain rfl ?_) | refine w_drawn rfl ?_ | refine zj ?_ | refine zl ?_
 | ((first | apply zs | (apply zt; (focus rfl)) | (apply zu; (focus rfl)) | (apply zv; (focus rfl)) | apply zw | apply zx | apply zy | apply zB | apply zC | apply zD | apply zE | apply zF); (focus ((conv => lhs; simp [bound, strB_ext, ha, htk, t1]); first | done | rfl)); first | apply zk | (apply zn; (focus rfl); try (focus (first | rfl | (simp [bound, strB_ext, ha, htk, t1]; done)))) | (apply zo; (focus rfl)) | apply gv_u | apply gv_tt | apply gv_ff | apply gv_ft | apply gv_tf | exact (hc1 _)))
    exact ⟨rfl, ⟨⟨0, 0, 0, 0⟩, 0⟩, rfl, by simp⟩
  · have o1 : onS (at_, false) n1 = (at_ + n1, false) := onS_ok (by omega)
    have t1 : ((n1 : Int) == 0) = false := by simp; omega
    have w1 : IntKind.i64.wrap ((at_ : Int) + n1) = ((at_ + n1 : Nat) : Int) := by rw [wrapI (by omega)]; omega
    obtain ⟨b1, hb1⟩ : ∃ x, x = at_ + n1 := ⟨_, rfl⟩
    rw [← hb1] at o1 w1
    have hb1l : b1 ≤ l.length := by omega
    have hc2 := fun (hh : Heap) => readCut2_runs (f := h.size) (h := hh) (hdl b1) (hdb b1)
    obtain ⟨c2, n2, hr2⟩ : ∃ c n, readCut (l.drop b1) = (c, n) := ⟨_, _, rfl⟩
    have hlen2 := readCut_len (l.drop b1)
    rw [hr2] at hc2 hlen2
    rw [List.length_drop] at hlen2
    simp only at hc2 hlen2
    have e2 : cutS l (b1, false) = (c2, onS (b1, false) n2) := by simp only [cutS, hr2]
    by_cases hn2 : n2 = 0
    · have hs : (spanS l (at_, false)).2 = (b1, true) := by
        simp only [spanS, e1, o1, e2, hn2, onS_zero]
      have hp : (partS l m (at_, false)).2 = (b1, true) := by
        cases m with
        | false => simp only [partS]; exact hs
        | true => simp only [partS, if_true, segS, numS, hs, onS_amiss]
      have t2 : ((n2 : Int) == 0) = true := by simp [hn2]
      rw [hp]
      repeat (first
 | refine za ?_ | refine zb ?_ | refine zc ?_ | refine zd ?_ | refine ze ?_ | refine zf ?_ | refine zg ?_ | refine zh ?_ | (refine zi ?_; try refine RgD_plain rfl ?_) | refine w_drawn rfl ?_ | refine zj ?_ | refine zl ?_
 | ((first | apply zs | (apply zt; (focus rfl)) | (apply zu; (focus rfl)) | (apply zv; (focus rfl)) | apply zw | apply zx | apply zy | apply zB | apply zC | apply zD | apply zE | apply zF); (focus ((conv => lhs; simp [bound, strB_ext, ha, hb1l, htk, t1, t2, w1]); first | done | rfl)); first | apply zk | (apply zn; (focus rfl); try (focus (first | rfl | (simp [bound, strB_ext, ha, hb1l, htk, t1, t2, w1]; done)))) | (apply zo; (focus rfl)) | apply gv_u | apply gv_tt | apply gv_ff | apply gv_ft | apply gv_tf | exact (hc1 _) | exact (hc2 _)))
      exact ⟨rfl, ⟨⟨0, 0, 0, 0⟩, 0⟩, rfl, by simp⟩
    · have o2 : onS (b1, false) n2 = (b1 + n2, false) := onS_ok (by omega)
      have t2 : ((n2 : Int) == 0) = false := by simp; omega
      have w2 : IntKind.i64.wrap ((b1 : Int) + n2) = ((b1 + n2 : Nat) : Int) := by rw [wrapI (by omega)]; omega
      obtain ⟨b2, hb2⟩ : ∃ x, x = b1 + n2 := ⟨_, rfl⟩
      rw [← hb2] at o2 w2
      have hb2l : b2 ≤ l.length := by omega
      have hs : spanS l (at_, false) = (⟨c1.1, c1.2, c2.1, c2.2⟩, (b2, false)) := by
        simp only [spanS, e1, o1, e2, o2]
      cases m with
      | false =>
        have hp : partS l false (at_, false) = (⟨⟨c1.1, c1.2, c2.1, c2.2⟩, 0⟩, (b2, false)) := by simp only [partS, hs]; rfl
        rw [hp]
        repeat (first
 | refine za ?_ | refine zb ?_ | refine zc ?_ | refine zd ?_ | refine ze ?_ | refine zf ?_ | refine zg ?_ | refine zh ?_ | (refine zi ?_; try refine RgD_plain rfl ?_) | refine w_drawn rfl ?_ | refine zj ?_ | refine zl ?_
 | ((first | apply zs | (apply zt; (focus rfl)) | (apply zu; (focus rfl)) | (apply zv; (focus rfl)) | apply zw | apply zx | apply zy | apply zB | apply zC | apply zD | apply zE | apply zF); (focus ((conv => lhs; simp [bound, strB_ext, ha, hb1l, htk, t1, t2, w1, w2]); first | done | rfl)); first | apply zk | (apply zn; (focus rfl); try (focus (first | rfl | (simp [bound, strB_ext, ha, hb1l, htk, t1, t2, w1, w2]; done)))) | (apply zo; (focus rfl)) | apply gv_u | apply gv_tt | apply gv_ff | apply gv_ft | apply gv_tf | exact (hc1 _) | exact (hc2 _)))
        exact ⟨rfl, ⟨⟨c1.1, c1.2, c2.1, c2.2⟩, 0⟩, rfl, by simp⟩
      | true =>
        have hc3 := fun (hh : Heap) => readNum2_runs (f := h.size) (h := hh) (hdl b2) (hdb b2)
        obtain ⟨v3, n3, hr3⟩ : ∃ c n, readNum (l.drop b2) = (c, n) := ⟨_, _, rfl⟩
        have hlen3 := readNum_len (l.drop b2)
        rw [hr3] at hc3 hlen3
        rw [List.length_drop] at hlen3
        simp only at hc3 hlen3
        have hp : partS l true (at_, false) = (⟨⟨c1.1, c1.2, c2.1, c2.2⟩, v3⟩, onS (b2, false) n3) := by simp only [partS, if_true, segS, hs, numS, hr3]
        rw [hp]
        by_cases hn3 : n3 = 0
        · have t3 : ((n3 : Int) == 0) = true := by simp [hn3]
          rw [hn3, onS_zero]
          repeat (first
 | refine za ?_ | refine zb ?_ | refine zc ?_ | refine zd ?_ | refine ze ?_ | refine zf ?_ | refine zg ?_ | refine zh ?_ | (refine zi ?_; try refine RgD_plain rfl ?_) | refine w_drawn rfl ?_ | refine zj ?_ | refine zl ?_
 | ((first | apply zs | (apply zt; (focus rfl)) | (apply zu; (focus rfl)) | (apply zv; (focus rfl)) | apply zw | apply zx | apply zy | apply zB | apply zC | apply zD | apply zE | apply zF); (focus ((conv => lhs; simp [bound, strB_ext, ha, hb1l, hb2l, htk, t1, t2, t3, w1, w2]); first | done | rfl)); first | apply zk | (apply zn; (focus rfl); try (focus (first | rfl | (simp [bound, strB_ext, ha, hb1l, hb2l, htk, t1, t2, t3, w1, w2]; done)))) | (apply zo; (focus rfl)) | apply gv_u | apply gv_tt | apply gv_ff | apply gv_ft | apply gv_tf | exact (hc1 _) | exact (hc2 _) | exact (hc3 _)))
          exact ⟨rfl, ⟨⟨c1.1, c1.2, c2.1, c2.2⟩, 0⟩, rfl, by simp⟩
        · have t3 : ((n3 : Int) == 0) = false := by simp; omega
          have w3 : IntKind.i64.wrap ((b2 : Int) + n3) = ((b2 + n3 : Nat) : Int) := by rw [wrapI (by omega)]; omega
          rw [onS_ok (by omega)]
          repeat (first
 | refine za ?_ | refine zb ?_ | refine zc ?_ | refine zd ?_ | refine ze ?_ | refine zf ?_ | refine zg ?_ | refine zh ?_ | (refine zi ?_; try refine RgD_plain rfl ?_) | refine w_drawn rfl ?_ | refine zj ?_ | refine zl ?_
 | ((first | apply zs | (apply zt; (focus rfl)) | (apply zu; (focus rfl)) | (apply zv; (focus rfl)) | apply zw | apply zx | apply zy | apply zB | apply zC | apply zD | apply zE | apply zF); (focus ((conv => lhs; simp [bound, strB_ext, ha, hb1l, hb2l, htk, t1, t2, t3, w1, w2, w3]); first | done | rfl)); first | apply zk | (apply zn; (focus rfl); try (focus (first | rfl | (simp [bound, strB_ext, ha, hb1l, hb2l, htk, t1, t2, t3, w1, w2, w3]; done)))) | (apply zo; (focus rfl)) | apply gv_u | apply gv_tt | apply gv_ff | apply gv_ft | apply gv_tf | exact (hc1 _) | exact (hc2 _) | exact (hc3 _)))
          exact ⟨rfl, ⟨⟨c1.1, c1.2, c2.1, c2.2⟩, v3⟩, rfl, by simp⟩
/-! ### the head -/
def headS (l : List Nat) (m : Bool) (at_ : Nat) : (Int × Bool × Int) × St :=
  if m then
    let g := signS l (signS l (at_, false) [2]).2 [0, 2]
    let a := signS l g.2 [0, 1]
    if a.1 = 1 then ((g.1, !(numS l a.2).2.2, (numS l a.2).1), (numS l a.2).2) else ((g.1, false, 0), a.2)
  else
    let g := signS l (signS l (at_, false) [1]).2 [0, 1, 2]
    ((g.1, false, 0), g.2)
theorem signS_amiss {l xs : List Nat} {a : Nat} : (signS l (a, true) xs).2 = (a, true) := by
  unfold signS; split
  · split <;> simp [onS]
  · simp [onS]
theorem signS_ok {l xs : List Nat} {a b : Nat} (h : l[a]? = some b) (hb : b ∈ xs) : signS l (a, false) xs = (b, (a + 1, false)) := by
  simp only [signS, h, if_pos hb, onS_ok (Nat.zero_lt_one)]
theorem signS_no {l xs : List Nat} {a : Nat} (h : ∀ b, l[a]? = some b → b ∉ xs) : signS l (a, false) xs = (0, (a, true)) := by
  unfold signS
  cases hb : l[a]? with
  | none => simp [onS]
  | some b => simp [h b hb, onS]
theorem numS_amiss {l : List Nat} {a : Nat} : (numS l (a, true)).2 = (a, true) := by simp [numS, onS]
theorem headS_set {l : List Nat} {a : Nat} : headS l false a = ((((signS l (signS l (a, false) [1]).2 [0, 1, 2]).1 : Int), false, 0), (signS l (signS l (a, false) [1]).2 [0, 1, 2]).2) := rfl
theorem headS_map {l : List Nat} {a : Nat} : headS l true a = if (signS l (signS l (signS l (a, false) [2]).2 [0, 2]).2 [0, 1]).1 = 1 then ((((signS l (signS l (a, false) [2]).2 [0, 2]).1 : Int), !(numS l (signS l (signS l (signS l (a, false) [2]).2 [0, 2]).2 [0, 1]).2).2.2, (numS l (signS l (signS l (signS l (a, false) [2]).2 [0, 2]).2 [0, 1]).2).1), (numS l (signS l (signS l (signS l (a, false) [2]).2 [0, 2]).2 [0, 1]).2).2) else ((((signS l (signS l (a, false) [2]).2 [0, 2]).1 : Int), false, 0), (signS l (signS l (signS l (a, false) [2]).2 [0, 2]).2 [0, 1]).2) := rfl
def HeadOut (x : (Int × Bool × Int) × St) (r : Value) : Prop := ∃ st ab z, r = .tuple #[.agg #[.int .i64 st, .bool ab, .int .i64 z], .int .i64 x.2.1, .bool (!x.2.2)] ∧ (x.2.2 = false → (st, ab, z) = x.1)
set_option maxHeartbeats 4000000 in
theorem head_runs {l : List Nat} {m : Bool} {at_ : Nat} (hl : l.length ≤ 100000) (hby : ∀ b ∈ l, b < 256) (ha : at_ ≤ l.length) :
    callR X ⟨f, []⟩ 41 [.string (strB l), .int .i64 at_, .bool m] h fun r h' => h' = h ∧ HeadOut (headS l m at_) r := by
  refine callR_of rfl f41_is ?_
  simp only [f41r0, f41r1, f41r2, f41r3, f41r4, f41r5, f41r6, f41r7, f41r8, f41r9, f41r10, f41r11, f41r12, f41r13, f41r14, f41r15, f41r16, f41r17, f41r18, f41r19, f41r20, f41r21, f41r22, f41r23, f41r24, f41b]
  have hdl : ∀ i, (l.drop i).length ≤ 100000 := fun i => by rw [List.length_drop]; omega
  have hdb : ∀ i, ∀ b ∈ l.drop i, b < 256 := fun i b hb => hby b (List.mem_of_mem_drop hb)
  have htk : ∀ i, (l.drop i).take (l.length - i) = l.drop i := fun i => List.take_of_length_le (by rw [List.length_drop]; omega)
  have none_at : ∀ i, ¬ i < l.length → l[i]? = none := fun i hi => List.getElem?_eq_none (by omega)
  have w1 := wadd (i := at_) (by omega)
  have w2 : IntKind.i64.wrap ((at_ : Int) + 1 + 1) = (at_ : Int) + 1 + 1 := wrapI (by omega)
  have w3 : IntKind.i64.wrap ((at_ : Int) + 1 + 1 + 1) = (at_ : Int) + 1 + 1 + 1 := wrapI (by omega)
  have v1 : ((at_ : Int) + 1).toNat = at_ + 1 := by omega
  have v2 : ((at_ : Int) + 1 + 1).toNat = at_ + 2 := by omega
  have v3 : ((at_ : Int) + 1 + 1 + 1).toNat = at_ + 3 := by omega
  have p1 : (0 : Int) ≤ (at_ : Int) + 1 := by omega
  have p2 : (0 : Int) ≤ (at_ : Int) + 1 + 1 := by omega
  have p3 : (0 : Int) ≤ (at_ : Int) + 1 + 1 + 1 := by omega
  cases m with
  | false =>
    by_cases h0 : at_ < l.length
    · obtain ⟨b, hb, _⟩ := elem_at h0
      have hg := strB_get hb
      have ht := u8_nat (hby b (List.mem_of_getElem? hb))
      have t0 : ¬ l.length ≤ at_ := by omega
      by_cases b1 : b = 1
      · have t1 : ((b : Int) != 1) = false := by simp; omega
        have s1 : signS l (at_, false) [1] = (b, (at_ + 1, false)) := signS_ok hb (by simp [b1])
        by_cases h1 : at_ + 1 < l.length
        · obtain ⟨c, hc, _⟩ := elem_at h1
          have hg2 := strB_get hc
          have ht2 := u8_nat (hby c (List.mem_of_getElem? hc))
          have t2 : decide ((l.length : Int) ≤ (at_ : Int) + 1) = false := by simp; omega
          by_cases c2 : c ≤ 2
          · have t3 : decide ((2 : Int) < c) = false := by simp; omega
            have w4 : IntKind.i64.wrap (c : Int) = c := wrapI (by omega)
            have e : headS l false at_ = (((c : Int), false, 0), (at_ + 2, false)) := by
              rw [headS_set, s1, signS_ok hc (by simp; omega)]
            rw [e]
            repeat (first
 | refine za ?_ | refine zb ?_ | refine zc ?_ | refine zd ?_ | refine ze ?_ | refine zf ?_ | refine zg ?_ | refine zh ?_ | (refine zi ?_; try refine RgD_plain rfl ?_) | refine w_drawn rfl ?_ | refine zj ?_ | refine zl ?_
 | ((first | apply zs | (apply zt; (focus rfl)) | (apply zu; (focus rfl)) | (apply zv; (focus rfl)) | apply zx | apply zy | apply zB | apply zC | apply zD | apply zE | apply zF); (focus ((conv => lhs; simp [w1, w2, v1, v2, p1, p2, t0, hg, ht, t1, t2, hg2, ht2, t3, w4]); first | done | rfl)); first | apply zk | (apply zn; (focus rfl); try (focus (first | rfl | (simp [w1, w2, v1, v2, p1, p2, t0, hg, ht, t1, t2, hg2, ht2, t3, w4]; done)))) | (apply zo; (focus rfl)) | apply gv_u | apply gv_tt | apply gv_ff | apply gv_ft | apply gv_tf))
            exact ⟨rfl, _, _, _, rfl, by simp⟩
          · have t3 : decide ((2 : Int) < c) = true := by simp; omega
            have e : (headS l false at_).2 = (at_ + 1, true) := by
              rw [headS_set, s1, signS_no (a := at_ + 1) (fun x hx => by rw [hc] at hx; cases hx; simp; omega)]
            repeat (first
 | refine za ?_ | refine zb ?_ | refine zc ?_ | refine zd ?_ | refine ze ?_ | refine zf ?_ | refine zg ?_ | refine zh ?_ | (refine zi ?_; try refine RgD_plain rfl ?_) | refine w_drawn rfl ?_ | refine zj ?_ | refine zl ?_
 | ((first | apply zs | (apply zt; (focus rfl)) | (apply zu; (focus rfl)) | (apply zv; (focus rfl)) | apply zx | apply zy | apply zB | apply zC | apply zD | apply zE | apply zF); (focus ((conv => lhs; simp [w1, w2, v1, v2, p1, p2, t0, hg, ht, t1, t2, hg2, ht2, t3]); first | done | rfl)); first | apply zk | (apply zn; (focus rfl); try (focus (first | rfl | (simp [w1, w2, v1, v2, p1, p2, t0, hg, ht, t1, t2, hg2, ht2, t3]; done)))) | (apply zo; (focus rfl)) | apply gv_u | apply gv_tt | apply gv_ff | apply gv_ft | apply gv_tf))
            exact ⟨rfl, 0, false, 0, by rw [e]; rfl, by rw [e]; simp⟩
        · have t2 : decide ((l.length : Int) ≤ (at_ : Int) + 1) = true := by simp; omega
          have e : (headS l false at_).2 = (at_ + 1, true) := by
            rw [headS_set, s1, signS_no (a := at_ + 1) (fun x hx => by rw [none_at _ h1] at hx; cases hx)]
          repeat (first
 | refine za ?_ | refine zb ?_ | refine zc ?_ | refine zd ?_ | refine ze ?_ | refine zf ?_ | refine zg ?_ | refine zh ?_ | (refine zi ?_; try refine RgD_plain rfl ?_) | refine w_drawn rfl ?_ | refine zj ?_ | refine zl ?_
 | ((first | apply zs | (apply zt; (focus rfl)) | (apply zu; (focus rfl)) | (apply zv; (focus rfl)) | apply zx | apply zy | apply zB | apply zC | apply zD | apply zE | apply zF); (focus ((conv => lhs; simp [w1, w2, v1, v2, p1, p2, t0, hg, ht, t1, t2]); first | done | rfl)); first | apply zk | (apply zn; (focus rfl); try (focus (first | rfl | (simp [w1, w2, v1, v2, p1, p2, t0, hg, ht, t1, t2]; done)))) | (apply zo; (focus rfl)) | apply gv_u | apply gv_tt | apply gv_ff | apply gv_ft | apply gv_tf))
          exact ⟨rfl, 0, false, 0, by rw [e]; rfl, by rw [e]; simp⟩
      · have t1 : ((b : Int) != 1) = true := by simp; omega
        have e : (headS l false at_).2 = (at_, true) := by
          rw [headS_set, signS_no (a := at_) (fun x hx => by rw [hb] at hx; cases hx; simp; omega)]
          exact signS_amiss
        repeat (first
 | refine za ?_ | refine zb ?_ | refine zc ?_ | refine zd ?_ | refine ze ?_ | refine zf ?_ | refine zg ?_ | refine zh ?_ | (refine zi ?_; try refine RgD_plain rfl ?_) | refine w_drawn rfl ?_ | refine zj ?_ | refine zl ?_
 | ((first | apply zs | (apply zt; (focus rfl)) | (apply zu; (focus rfl)) | (apply zv; (focus rfl)) | apply zx | apply zy | apply zB | apply zC | apply zD | apply zE | apply zF); (focus ((conv => lhs; simp [t0, hg, ht, t1]); first | done | rfl)); first | apply zk | (apply zn; (focus rfl); try (focus (first | rfl | (simp [t0, hg, ht, t1]; done)))) | (apply zo; (focus rfl)) | apply gv_u | apply gv_tt | apply gv_ff | apply gv_ft | apply gv_tf))
        exact ⟨rfl, 0, false, 0, by rw [e]; rfl, by rw [e]; simp⟩
    · have t0 : l.length ≤ at_ := by omega
      have e : (headS l false at_).2 = (at_, true) := by
        rw [headS_set, signS_no (a := at_) (fun x hx => by rw [none_at _ h0] at hx; cases hx)]
        exact signS_amiss
      repeat (first
 | refine za ?_ | refine zb ?_ | refine zc ?_ | refine zd ?_ | refine ze ?_ | refine zf ?_ | refine zg ?_ | refine zh ?_ | (refine zi ?_; try refine RgD_plain rfl ?_) | refine w_drawn rfl ?_ | refine zj ?_ | refine zl ?_
 | ((first | apply zs | (apply zt; (focus rfl)) | (apply zu; (focus rfl)) | (apply zv; (focus rfl)) | apply zx | apply zy | apply zB | apply zC | apply zD | apply zE | apply zF); (focus ((conv => lhs; simp [t0]); first | done | rfl)); first | apply zk | (apply zn; (focus rfl); try (focus (first | rfl | (simp [t0]; done)))) | (apply zo; (focus rfl)) | apply gv_u | apply gv_tt | apply gv_ff | apply gv_ft | apply gv_tf))
      exact ⟨rfl, 0, false, 0, by rw [e]; rfl, by rw [e]; simp⟩
  | true =>
    have bad : ∀ s : St, (signS l (at_, false) [2]).2 = s → s.2 = true → (headS l true at_).2 = s := by
      rintro ⟨s1, s2⟩ e q
      simp only at q; subst q
      rw [headS_map, e]
      have e2 : (signS l (s1, true) [0, 2]).2 = (s1, true) := signS_amiss
      have e3 : (signS l (s1, true) [0, 1]).2 = (s1, true) := signS_amiss
      rw [e2]
      split
      · rw [e3]; exact numS_amiss (l := l)
      · exact e3
    have bad2 : ∀ s : St, (signS l (signS l (at_, false) [2]).2 [0, 2]).2 = s → s.2 = true → (headS l true at_).2 = s := by
      rintro ⟨s1, s2⟩ e q
      simp only at q; subst q
      rw [headS_map, e]
      have e3 : (signS l (s1, true) [0, 1]).2 = (s1, true) := signS_amiss
      split
      · rw [e3]; exact numS_amiss (l := l)
      · exact e3
    by_cases h0 : at_ < l.length
    · obtain ⟨b, hb, _⟩ := elem_at h0
      have hg := strB_get hb
      have ht := u8_nat (hby b (List.mem_of_getElem? hb))
      have t0 : ¬ l.length ≤ at_ := by omega
      by_cases b2 : b = 2
      · have t1 : ((b : Int) != 2) = false := by simp; omega
        have s1 : signS l (at_, false) [2] = (b, (at_ + 1, false)) := signS_ok hb (by simp [b2])
        by_cases h1 : at_ + 1 < l.length
        · obtain ⟨c, hc, _⟩ := elem_at h1
          have hg2 := strB_get hc
          have ht2 := u8_nat (hby c (List.mem_of_getElem? hc))
          have t2 : decide ((l.length : Int) ≤ (at_ : Int) + 1) = false := by simp; omega
          by_cases c02 : c = 0 ∨ c = 2
          · have t3 : decide ((2 : Int) < c) = false := by simp; omega
            have t4 : ((c : Int) == 1) = false := by simp; omega
            have w4 : IntKind.i64.wrap (c : Int) = c := wrapI (by omega)
            have s2 : signS l (at_ + 1, false) [0, 2] = (c, (at_ + 2, false)) := signS_ok hc (by simp; omega)
            by_cases h2 : at_ + 2 < l.length
            · obtain ⟨d, hd, _⟩ := elem_at h2
              have hg3 := strB_get hd
              have ht3 := u8_nat (hby d (List.mem_of_getElem? hd))
              have t5 : decide ((l.length : Int) ≤ (at_ : Int) + 1 + 1) = false := by simp; omega
              by_cases d1 : d ≤ 1
              · have t6 : decide ((1 : Int) < d) = false := by simp; omega
                have s3 : signS l (at_ + 2, false) [0, 1] = (d, (at_ + 3, false)) := signS_ok hd (by simp; omega)
                by_cases dd : d = 1
                · have t7 : ((d : Int) == 1) = true := by simp [dd]
                  have hc3 := fun (hh : Heap) => readNum2_runs (f := h.size) (h := hh) (hdl (at_ + 3)) (hdb (at_ + 3))
                  obtain ⟨v3', n3, hr3⟩ : ∃ c n, readNum (l.drop (at_ + 3)) = (c, n) := ⟨_, _, rfl⟩
                  have hlen3 := readNum_len (l.drop (at_ + 3))
                  rw [hr3] at hc3 hlen3
                  rw [List.length_drop] at hlen3
                  simp only at hc3 hlen3
                  have p4 : (at_ : Int) + 1 + 1 + 1 ≤ l.length := by omega
                  have e : headS l true at_ = (((c : Int), !(onS (at_ + 3, false) n3).2, v3'), onS (at_ + 3, false) n3) := by
                    rw [headS_map, s1, s2, s3, if_pos dd]; simp only [numS, hr3]
                  by_cases hn3 : n3 = 0
                  · have t8 : ((n3 : Int) == 0) = true := by simp [hn3]
                    rw [e, hn3, onS_zero]
                    repeat (first
 | refine za ?_ | refine zb ?_ | refine zc ?_ | refine zd ?_ | refine ze ?_ | refine zf ?_ | refine zg ?_ | refine zh ?_ | (refine zi ?_; try refine RgD_plain rfl ?_) | refine w_drawn rfl ?_ | refine zj ?_ | refine zl ?_
 | ((first | apply zs | (apply zt; (focus rfl)) | (apply zu; (focus rfl)) | (apply zv; (focus rfl)) | apply zw | apply zx | apply zy | apply zB | apply zC | apply zD | apply zE | apply zF); (focus ((conv => lhs; simp [w1, w2, w3, v1, v2, v3, p1, p2, p3, p4, t0, hg, ht, t1, t2, hg2, ht2, t3, t4, w4, hg3, ht3, t5, t6, t7, t8, bound, strB_ext, htk]); first | done | rfl)); first | apply zk | (apply zn; (focus rfl); try (focus (first | rfl | (simp [w1, w2, w3, v1, v2, v3, p1, p2, p3, p4, t0, hg, ht, t1, t2, hg2, ht2, t3, t4, w4, hg3, ht3, t5, t6, t7, t8, bound, strB_ext, htk]; done)))) | (apply zo; (focus rfl)) | apply gv_u | apply gv_tt | apply gv_ff | apply gv_ft | apply gv_tf | exact (hc3 _)))
                    exact ⟨rfl, c, true, 0, rfl, by simp⟩
                  · have t8 : ((n3 : Int) == 0) = false := by simp; omega
                    have w5 : IntKind.i64.wrap ((at_ : Int) + 1 + 1 + 1 + n3) = ((at_ + 3 + n3 : Nat) : Int) := by rw [wrapI (by omega)]; omega
                    rw [e, onS_ok (by omega)]
                    repeat (first
 | refine za ?_ | refine zb ?_ | refine zc ?_ | refine zd ?_ | refine ze ?_ | refine zf ?_ | refine zg ?_ | refine zh ?_ | (refine zi ?_; try refine RgD_plain rfl ?_) | refine w_drawn rfl ?_ | refine zj ?_ | refine zl ?_
 | ((first | apply zs | (apply zt; (focus rfl)) | (apply zu; (focus rfl)) | (apply zv; (focus rfl)) | apply zw | apply zx | apply zy | apply zB | apply zC | apply zD | apply zE | apply zF); (focus ((conv => lhs; simp [w1, w2, w3, v1, v2, v3, p1, p2, p3, p4, t0, hg, ht, t1, t2, hg2, ht2, t3, t4, w4, hg3, ht3, t5, t6, t7, t8, w5, bound, strB_ext, htk]); first | done | rfl)); first | apply zk | (apply zn; (focus rfl); try (focus (first | rfl | (simp [w1, w2, w3, v1, v2, v3, p1, p2, p3, p4, t0, hg, ht, t1, t2, hg2, ht2, t3, t4, w4, hg3, ht3, t5, t6, t7, t8, w5, bound, strB_ext, htk]; done)))) | (apply zo; (focus rfl)) | apply gv_u | apply gv_tt | apply gv_ff | apply gv_ft | apply gv_tf | exact (hc3 _)))
                    exact ⟨rfl, c, true, v3', rfl, by simp⟩
                · have t7 : ((d : Int) == 1) = false := by simp; omega
                  have e : headS l true at_ = (((c : Int), false, 0), (at_ + 3, false)) := by
                    rw [headS_map, s1, s2, s3, if_neg dd]
                  rw [e]
                  repeat (first
 | refine za ?_ | refine zb ?_ | refine zc ?_ | refine zd ?_ | refine ze ?_ | refine zf ?_ | refine zg ?_ | refine zh ?_ | (refine zi ?_; try refine RgD_plain rfl ?_) | refine w_drawn rfl ?_ | refine zj ?_ | refine zl ?_
 | ((first | apply zs | (apply zt; (focus rfl)) | (apply zu; (focus rfl)) | (apply zv; (focus rfl)) | apply zx | apply zy | apply zB | apply zC | apply zD | apply zE | apply zF); (focus ((conv => lhs; simp [w1, w2, w3, v1, v2, v3, p1, p2, p3, t0, hg, ht, t1, t2, hg2, ht2, t3, t4, w4, hg3, ht3, t5, t6, t7]); first | done | rfl)); first | apply zk | (apply zn; (focus rfl); try (focus (first | rfl | (simp [w1, w2, w3, v1, v2, v3, p1, p2, p3, t0, hg, ht, t1, t2, hg2, ht2, t3, t4, w4, hg3, ht3, t5, t6, t7]; done)))) | (apply zo; (focus rfl)) | apply gv_u | apply gv_tt | apply gv_ff | apply gv_ft | apply gv_tf))
                  exact ⟨rfl, c, false, 0, rfl, by simp⟩
              · have t6 : decide ((1 : Int) < d) = true := by simp; omega
                have e : (headS l true at_).2 = (at_ + 2, true) := by
                  rw [headS_map, s1, s2, signS_no (a := at_ + 2) (fun x hx => by rw [hd] at hx; cases hx; simp; omega)]
                  rfl
                repeat (first
 | refine za ?_ | refine zb ?_ | refine zc ?_ | refine zd ?_ | refine ze ?_ | refine zf ?_ | refine zg ?_ | refine zh ?_ | (refine zi ?_; try refine RgD_plain rfl ?_) | refine w_drawn rfl ?_ | refine zj ?_ | refine zl ?_
 | ((first | apply zs | (apply zt; (focus rfl)) | (apply zu; (focus rfl)) | (apply zv; (focus rfl)) | apply zx | apply zy | apply zB | apply zC | apply zD | apply zE | apply zF); (focus ((conv => lhs; simp [w1, w2, w3, v1, v2, v3, p1, p2, p3, t0, hg, ht, t1, t2, hg2, ht2, t3, t4, w4, hg3, ht3, t5, t6]); first | done | rfl)); first | apply zk | (apply zn; (focus rfl); try (focus (first | rfl | (simp [w1, w2, w3, v1, v2, v3, p1, p2, p3, t0, hg, ht, t1, t2, hg2, ht2, t3, t4, w4, hg3, ht3, t5, t6]; done)))) | (apply zo; (focus rfl)) | apply gv_u | apply gv_tt | apply gv_ff | apply gv_ft | apply gv_tf))
                exact ⟨rfl, c, false, 0, by rw [e]; rfl, by rw [e]; simp⟩
            · have t5 : decide ((l.length : Int) ≤ (at_ : Int) + 1 + 1) = true := by simp; omega
              have e : (headS l true at_).2 = (at_ + 2, true) := by
                rw [headS_map, s1, s2, signS_no (a := at_ + 2) (fun x hx => by rw [none_at _ h2] at hx; cases hx)]
                rfl
              repeat (first
 | refine za ?_ | refine zb ?_ | refine zc ?_ | refine zd ?_ | refine ze ?_ | refine zf ?_ | refine zg ?_ | refine zh ?_ | (refine zi ?_; try refine RgD_plain rfl ?_) | refine w_drawn rfl ?_ | refine zj ?_ | refine zl ?_
 | ((first | apply zs | (apply zt; (focus rfl)) | (apply zu; (focus rfl)) | (apply zv; (focus rfl)) | apply zx | apply zy | apply zB | apply zC | apply zD | apply zE | apply zF); (focus ((conv => lhs; simp [w1, w2, w3, v1, v2, v3, p1, p2, p3, t0, hg, ht, t1, t2, hg2, ht2, t3, t4, w4, t5]); first | done | rfl)); first | apply zk | (apply zn; (focus rfl); try (focus (first | rfl | (simp [w1, w2, w3, v1, v2, v3, p1, p2, p3, t0, hg, ht, t1, t2, hg2, ht2, t3, t4, w4, t5]; done)))) | (apply zo; (focus rfl)) | apply gv_u | apply gv_tt | apply gv_ff | apply gv_ft | apply gv_tf))
              exact ⟨rfl, c, false, 0, by rw [e]; rfl, by rw [e]; simp⟩
          · have e : (headS l true at_).2 = (at_ + 1, true) := bad2 _ (by rw [s1, signS_no (a := at_ + 1) (fun x hx => by rw [hc] at hx; cases hx; simp; omega)]) rfl
            by_cases c3 : c > 2
            · have t3 : decide ((2 : Int) < c) = true := by simp; omega
              repeat (first
 | refine za ?_ | refine zb ?_ | refine zc ?_ | refine zd ?_ | refine ze ?_ | refine zf ?_ | refine zg ?_ | refine zh ?_ | (refine zi ?_; try refine RgD_plain rfl ?_) | refine w_drawn rfl ?_ | refine zj ?_ | refine zl ?_
 | ((first | apply zs | (apply zt; (focus rfl)) | (apply zu; (focus rfl)) | (apply zv; (focus rfl)) | apply zx | apply zy | apply zB | apply zC | apply zD | apply zE | apply zF); (focus ((conv => lhs; simp [w1, w2, v1, v2, p1, p2, t0, hg, ht, t1, t2, hg2, ht2, t3]); first | done | rfl)); first | apply zk | (apply zn; (focus rfl); try (focus (first | rfl | (simp [w1, w2, v1, v2, p1, p2, t0, hg, ht, t1, t2, hg2, ht2, t3]; done)))) | (apply zo; (focus rfl)) | apply gv_u | apply gv_tt | apply gv_ff | apply gv_ft | apply gv_tf))
              exact ⟨rfl, 0, false, 0, by rw [e]; rfl, by rw [e]; simp⟩
            · have t3 : decide ((2 : Int) < c) = false := by simp; omega
              have t4 : ((c : Int) == 1) = true := by simp; omega
              repeat (first
 | refine za ?_ | refine zb ?_ | refine zc ?_ | refine zd ?_ | refine ze ?_ | refine zf ?_ | refine zg ?_ | refine zh ?_ | (refine zi ?_; try refine RgD_plain rfl ?_) | refine w_drawn rfl ?_ | refine zj ?_ | refine zl ?_
 | ((first | apply zs | (apply zt; (focus rfl)) | (apply zu; (focus rfl)) | (apply zv; (focus rfl)) | apply zx | apply zy | apply zB | apply zC | apply zD | apply zE | apply zF); (focus ((conv => lhs; simp [w1, w2, v1, v2, p1, p2, t0, hg, ht, t1, t2, hg2, ht2, t3, t4]); first | done | rfl)); first | apply zk | (apply zn; (focus rfl); try (focus (first | rfl | (simp [w1, w2, v1, v2, p1, p2, t0, hg, ht, t1, t2, hg2, ht2, t3, t4]; done)))) | (apply zo; (focus rfl)) | apply gv_u | apply gv_tt | apply gv_ff | apply gv_ft | apply gv_tf))
              exact ⟨rfl, 0, false, 0, by rw [e]; rfl, by rw [e]; simp⟩
        · have t2 : decide ((l.length : Int) ≤ (at_ : Int) + 1) = true := by simp; omega
          have e : (headS l true at_).2 = (at_ + 1, true) := bad2 _ (by rw [s1, signS_no (a := at_ + 1) (fun x hx => by rw [none_at _ h1] at hx; cases hx)]) rfl
          repeat (first
 | refine za ?_ | refine zb ?_ | refine zc ?_ | refine zd ?_ | refine ze ?_ | refine zf ?_ | refine zg ?_ | refine zh ?_ | (refine zi ?_; try refine RgD_plain rfl ?_) | refine w_drawn rfl ?_ | refine zj ?_ | refine zl ?_
 | ((first | apply zs | (apply zt; (focus rfl)) | (apply zu; (focus rfl)) | (apply zv; (focus rfl)) | apply zx | apply zy | apply zB | apply zC | apply zD | apply zE | apply zF); (focus ((conv => lhs; simp [w1, w2, v1, v2, p1, p2, t0, hg, ht, t1, t2]); first | done | rfl)); first | apply zk | (apply zn; (focus rfl); try (focus (first | rfl | (simp [w1, w2, v1, v2, p1, p2, t0, hg, ht, t1, t2]; done)))) | (apply zo; (focus rfl)) | apply gv_u | apply gv_tt | apply gv_ff | apply gv_ft | apply gv_tf))
          exact ⟨rfl, 0, false, 0, by rw [e]; rfl, by rw [e]; simp⟩
      · have t1 : ((b : Int) != 2) = true := by simp; omega
        have e : (headS l true at_).2 = (at_, true) := bad _ (by rw [signS_no (a := at_) (fun x hx => by rw [hb] at hx; cases hx; simp; omega)]) rfl
        repeat (first
 | refine za ?_ | refine zb ?_ | refine zc ?_ | refine zd ?_ | refine ze ?_ | refine zf ?_ | refine zg ?_ | refine zh ?_ | (refine zi ?_; try refine RgD_plain rfl ?_) | refine w_drawn rfl ?_ | refine zj ?_ | refine zl ?_
 | ((first | apply zs | (apply zt; (focus rfl)) | (apply zu; (focus rfl)) | (apply zv; (focus rfl)) | apply zx | apply zy | apply zB | apply zC | apply zD | apply zE | apply zF); (focus ((conv => lhs; simp [t0, hg, ht, t1]); first | done | rfl)); first | apply zk | (apply zn; (focus rfl); try (focus (first | rfl | (simp [t0, hg, ht, t1]; done)))) | (apply zo; (focus rfl)) | apply gv_u | apply gv_tt | apply gv_ff | apply gv_ft | apply gv_tf))
        exact ⟨rfl, 0, false, 0, by rw [e]; rfl, by rw [e]; simp⟩
    · have t0 : l.length ≤ at_ := by omega
      have e : (headS l true at_).2 = (at_, true) := bad _ (by rw [signS_no (a := at_) (fun x hx => by rw [none_at _ h0] at hx; cases hx)]) rfl
      repeat (first
 | refine za ?_ | refine zb ?_ | refine zc ?_ | refine zd ?_ | refine ze ?_ | refine zf ?_ | refine zg ?_ | refine zh ?_ | (refine zi ?_; try refine RgD_plain rfl ?_) | refine w_drawn rfl ?_ | refine zj ?_ | refine zl ?_
 | ((first | apply zs | (apply zt; (focus rfl)) | (apply zu; (focus rfl)) | (apply zv; (focus rfl)) | apply zx | apply zy | apply zB | apply zC | apply zD | apply zE | apply zF); (focus ((conv => lhs; simp [t0]); first | done | rfl)); first | apply zk | (apply zn; (focus rfl); try (focus (first | rfl | (simp [t0]; done)))) | (apply zo; (focus rfl)) | apply gv_u | apply gv_tt | apply gv_ff | apply gv_ft | apply gv_tf))
      exact ⟨rfl, 0, false, 0, by rw [e]; rfl, by rw [e]; simp⟩
end Go.Proofs.YtmjaanhphkbkeaaGreat
end
