import Derived.Test.YtmjaanhphkbkeaaGreatCodeG
set_option linter.all false
section
namespace Go.Proofs.YtmjaanhphkbkeaaGreat
open Go.AM
set_option linter.unusedSimpArgs false
set_option linter.unusedVariables false
variable {f : Nat} {h : Heap}
theorem write6_runs {w : Value} {gs : List Sg} {st z : Int} {ab : Bool} (hr : GRow h w gs) (hl : gs.length ≤ 10000) (hx : ∀ g ∈ gs, g.s.rng) :
    Runs X ⟨f, []⟩ 7 [.agg #[.bool false, .int .i64 st, .bool ab, .int .i64 z, w]] h (.string (strB (setB st (gs.map (·.s))))) h := by
  refine Runs_of rfl f7_is ?_
  simp only [f7r0, f7r1, f7r2, f7r3, f7r4, f7r5, f7r6, f7r7, f7r8, f7r9, f7r10, f7r11, f7r12, f7r13, f7r14, f7r15, f7l16, f7r17, f7b]
  have ho : one w = true := by obtain ⟨a, c, rfl⟩ := hr.form; rfl
  have hfi := fine7_runs (f := h.size) (st := st) (z := z) (ab := ab) (hr.push (.cells [.bool false, .int .i64 st, .bool ab, .int .i64 z, w] 27)) (by omega)
  cases hok : (right10 st && fineS st (gs.map (·.s))) with
  | false =>
    have e : setB st (gs.map (·.s)) = [] := by rw [setB, if_neg]; simpa using hok
    rw [hok] at hfi
    rw [e]
    repeat (first
 | refine za ?_ | refine zb ?_ | refine zc ?_ | refine zd ?_ | refine ze ?_ | refine zf ?_ | refine zg ?_ | refine zh ?_ | (refine zi ?_; try refine RgD_plain rfl ?_) | refine w_drawn rfl ?_ | refine zj ?_ | refine zl ?_
 | ((first | apply zs | (apply zt; (focus rfl)) | (apply zu; (focus rfl)) | (apply zv; (focus rfl)) | apply zw | apply zx | apply zy | apply zB | apply zC | apply zD | apply zE | apply zF); (focus ((conv => lhs; simp [ho]); first | done | rfl)); first | apply zk | (apply zn; (focus rfl); try (focus (first | rfl | (simp [ho]; done)))) | (apply zo; (focus rfl)) | apply gv_u | apply gv_tt | apply gv_ff | apply gv_ft | apply gv_tf | exact hfi))
  | true =>
    have hok' : right10 st = true ∧ fineS st (gs.map (·.s)) = true := by simpa using hok
    have e : setB st (gs.map (·.s)) = numB (zig (bodyB st (gs.map (·.s))).length) ++ bodyB st (gs.map (·.s)) := by rw [setB, if_pos hok']
    rw [hok] at hfi
    rw [e]
    obtain ⟨k, hk⟩ : ∃ k, k = st.toNat := ⟨_, rfl⟩
    have hst : IntKind.u8.wrap st = (k : Int) := by
      have := hok'.1; simp [right10] at this
      rw [wrap8', hk]; omega
    have hb1 : binS .add ⟨#[1]⟩ ⟨#[UInt8.ofNat k]⟩ = some (.string (strB [1, k])) := binS_add (a := [1]) (b := [k]) (by simp) (by simp)
    have hnl := num_len (n := (gs.length : Nat)) (by omega)
    have hb2 : binS .add (strB [1, k]) (strB (numB (zig gs.length))) = some (.string (strB ([1, k] ++ numB (zig gs.length)))) := binS_add (by simp) (by omega)
    obtain ⟨a, c, rfl⟩ := hr.form
    generalize hpre : [1, k] ++ numB (zig gs.length) = pre at *
    have hprel : pre.length ≤ 12 := by rw [← hpre]; simp; omega
    have hbody : bodyB st (gs.map (·.s)) = pre ++ gs.flatMap (fun g => cutsB g.s) := by rw [bodyB, ← hpre, ← hk]; simp [List.flatMap_map]
    repeat (first
 | refine za ?_ | refine zb ?_ | refine zc ?_ | refine zd ?_ | refine ze ?_ | refine zf ?_ | refine zg ?_ | refine zh ?_ | (refine zi ?_; try refine RgD_plain rfl ?_) | refine w_drawn rfl ?_ | refine zj ?_ | refine zl ?_
 | ((first | apply zs | (apply zt; (focus rfl)) | (apply zu; (focus rfl)) | (apply zv; (focus rfl)) | apply zw | apply zx | apply zy | apply zB | apply zC | apply zD | apply zE | apply zF); (focus ((conv => lhs; simp [ho, hst, hb1, hb2, srcCells, bytesOf, Go.AM.byteOf]); first | done | rfl)); first | apply zk | (apply zn; (focus rfl); try (focus (first | rfl | (simp [ho, hst, hb1, hb2, srcCells, bytesOf, Go.AM.byteOf]; done)))) | (apply zo; (focus rfl)) | apply gv_u | apply gv_tt | apply gv_ff | apply gv_ft | apply gv_tf | exact hfi | exact (num2_runs (n := gs.length) (by omega))))
    refine w_loop (A := Nat) (fun i env h1 => i ≤ gs.length ∧ env 1 = .pointer (some ⟨h.size, 0, none⟩) ∧ env 3 = .string (strB (pre ++ (gs.take i).flatMap (fun g => cutsB g.s))) ∧ env 4 = .int .i64 i ∧ h1.cellsAt h.size = some [.bool false, .int .i64 st, .bool ab, .int .i64 z, .slice a gs.length c] ∧ GRow h1 (.slice a gs.length c) gs) (fun i => gs.length - i) (a0 := 0)
      ⟨by omega, by simp, by simp, by simp, by simp, (hr.push _).push _⟩ ?_
    rintro i env h1 ⟨hi, e1, e3, e4, hc1, hr1⟩
    have hlen : ∀ n, (pre ++ (gs.take n).flatMap (fun g => cutsB g.s)).length ≤ 12 + 22 * gs.length := by
      intro n
      have h1 := flat_len (m := 22) (g := fun g : Sg => cutsB g.s) (gs.take n) (fun s hs => cutsB_len (hx s (List.mem_of_mem_take hs)))
      have : (gs.take n).length ≤ gs.length := by rw [List.length_take]; omega
      rw [List.length_append]
      have : 22 * (gs.take n).length ≤ 22 * gs.length := Nat.mul_le_mul_left _ this
      omega
    by_cases hlt : i < gs.length
    · obtain ⟨s, hx1, hd⟩ := elem_at hlt
      obtain ⟨b, o, cs, rfl, hb1, hc, hga⟩ := hr1.all sgC_len (by omega)
      have hg : grab cs (o + i * 5) 2 = some [.int .i64 s.s.a, .int .i64 s.s.b] := grab_sub (hga i s hx1 hlt) (p := 0) (m := 2) (by omega)
      have hg2 : grab cs (o + i * 5 + 2) 2 = some [.int .i64 s.s.c, .int .i64 s.s.d] := grab_sub (hga i s hx1 hlt) (p := 2) (m := 2) (by omega)
      have hsr := hx s (List.mem_of_getElem? hx1)
      have w1 := wadd (i := i) (by omega)
      have hli := hlen i
      have c1 := cut_len (c := (s.s.a, s.s.b)) hsr.1
      have c2 := cut_len (c := (s.s.c, s.s.d)) hsr.2
      have hA : binS .add (strB (pre ++ (gs.take i).flatMap (fun g => cutsB g.s))) (strB (cutB (s.s.a, s.s.b))) = some (.string (strB (pre ++ (gs.take i).flatMap (fun g => cutsB g.s) ++ cutB (s.s.a, s.s.b)))) := binS_add (by omega) (by omega)
      have hB : binS .add (strB (pre ++ (gs.take i).flatMap (fun g => cutsB g.s) ++ cutB (s.s.a, s.s.b))) (strB (cutB (s.s.c, s.s.d))) = some (.string (strB (pre ++ (gs.take i).flatMap (fun g => cutsB g.s) ++ cutB (s.s.a, s.s.b) ++ cutB (s.s.c, s.s.d)))) := binS_add (by rw [List.length_append]; omega) (by omega)
      have ht : pre ++ (gs.take (i + 1)).flatMap (fun g => cutsB g.s) = pre ++ (gs.take i).flatMap (fun g => cutsB g.s) ++ cutB (s.s.a, s.s.b) ++ cutB (s.s.c, s.s.d) := by
        rw [List.take_add_one, hx1]; simp [cutsB]
      generalize pre ++ (gs.take i).flatMap (fun g => cutsB g.s) = acc at *
      clear hga hr hfi hd hx1
      repeat (first
 | refine za ?_ | refine zb ?_ | refine zc ?_ | refine zd ?_ | refine ze ?_ | refine zf ?_ | refine zg ?_ | refine zh ?_ | (refine zi ?_; try refine RgD_plain rfl ?_) | refine w_drawn rfl ?_ | refine zj ?_ | refine zl ?_
 | ((first | apply zs | (apply zt; (focus rfl)) | (apply zu; (focus rfl)) | (apply zv; (focus rfl)) | apply zw | apply zx | apply zy | apply zB | apply zC | apply zD | apply zE | apply zF); (focus ((conv => lhs; simp [e1, e3, e4, hc1, hlt, hc, hg, hg2, w1, hA, hB]); first | done | rfl)); first | apply zk | (apply zn; (focus rfl); try (focus (first | rfl | (simp [e1, e3, e4, hc1, hlt, hc, hg, hg2, w1, hA, hB]; done)))) | (apply zo; (focus rfl)) | apply gv_u | apply gv_tt | apply gv_ff | apply gv_ft | apply gv_tf | exact (cut2_runs hsr.1) | exact (cut2_runs hsr.2)))
      exact ⟨i + 1, ⟨by omega, by simp [e1], by rw [ht]; simp, by simp, hc1, hr1⟩, by omega⟩
    · have ht : gs.take i = gs := List.take_of_length_le (by omega)
      have hli := hlen i
      rw [ht, ← hbody] at hli e3
      have hll := num_len (n := ((bodyB st (gs.map (·.s))).length : Nat)) (by omega)
      have hC : binS .add (strB (numB (zig (bodyB st (gs.map (·.s))).length))) (strB (bodyB st (gs.map (·.s)))) = some (.string (strB (numB (zig (bodyB st (gs.map (·.s))).length) ++ bodyB st (gs.map (·.s))))) := binS_add (by omega) (by omega)
      repeat (first
 | refine za ?_ | refine zb ?_ | refine zc ?_ | refine zd ?_ | refine ze ?_ | refine zf ?_ | refine zg ?_ | refine zh ?_ | (refine zi ?_; try refine RgD_plain rfl ?_) | refine w_drawn rfl ?_ | refine zj ?_ | refine zl ?_
 | ((first | apply zs | (apply zt; (focus rfl)) | (apply zu; (focus rfl)) | (apply zv; (focus rfl)) | apply zw | apply zx | apply zy | apply zB | apply zC | apply zD | apply zE | apply zF); (focus ((conv => lhs; simp [e1, e3, e4, hc1, hlt, hC]); first | done | rfl)); first | apply zk | (apply zn; (focus rfl); try (focus (first | rfl | (simp [e1, e3, e4, hc1, hlt, hC]; done)))) | (apply zo; (focus rfl)) | apply gv_u | apply gv_tt | apply gv_ff | apply gv_ft | apply gv_tf | exact (num2_runs (n := ((bodyB st (gs.map (·.s))).length : Nat)) (by omega))))
end Go.Proofs.YtmjaanhphkbkeaaGreat
end

section
namespace Go.Proofs.YtmjaanhphkbkeaaGreat
open Go.AM
set_option linter.unusedSimpArgs false
set_option linter.unusedVariables false
/-! ### what is written is read -/
theorem getU_num : ∀ (k u : Nat) (r : List Nat), (numB u).length ≤ k → getU k (numB u ++ r) = some (u, (numB u).length)
  | 0, u, r, h => by
    rw [numB] at h; split at h <;> simp at h
  | k + 1, u, r, h => by
    rw [numB] at h ⊢
    split
    · rename_i q
      simp [getU, q]
    · rename_i q
      rw [dif_neg q] at h
      simp only [List.length_cons] at h
      rw [List.cons_append, getU, if_neg (by omega), getU_num k (u / 128) r (by omega)]
      simp; omega
theorem readNum_num {n : Int} (hn : rngI n) (r : List Nat) : readNum (numB (zig n) ++ r) = (n, (numB (zig n)).length) := by
  have h1 := num_len hn
  have h2 := zig_lt hn
  rw [readNum, getU_num 10 (zig n) r (by omega)]
  simp only [Nat.mod_eq_of_lt h2, List.take_left, if_true, unzig_zig]
theorem numB_pos (u : Nat) : 0 < (numB u).length := by rw [numB]; split <;> simp
theorem readCut_cut {c : Int × Int} (hc : rightC c = true) (hr : rngI c.2) (r : List Nat) : readCut (cutB c ++ r) = (c, (cutB c).length) := by
  have hcc : canon c = c := by
    simp [rightC] at hc; exact Prod.ext hc.1 hc.2
  rcases canon_side c with h | h | h
  · have hc2 : c = (-1, 0) := by
      have : canon c = (-1, 0) := by
        unfold canon at h ⊢; split
        · rfl
        · rename_i q1; rw [if_neg q1] at h; split at h
          · simp at h
          · rename_i q2; omega
      rw [← hcc, this]
    have : cutB c = [0] := by simp [cutB, h]
    rw [this, hc2]; simp [readCut]
  · have hc2 : c = (1, 0) := by
      have : canon c = (1, 0) := by
        unfold canon at h ⊢; split
        · rename_i q1; rw [if_pos q1] at h; simp at h
        · rename_i q1; rw [if_neg q1] at h; split
          · rfl
          · rename_i q2; rw [if_neg q2] at h; omega
      rw [← hcc, this]
    have : cutB c = [2] := by simp [cutB, h]
    rw [this, hc2]; simp [readCut]
  · have h2 : cutB c = 1 :: numB (zig c.2) := by rw [cutB, if_neg (by omega), if_neg (by omega), hcc]
    have h3 : c = (0, c.2) := by rw [hcc] at h; exact Prod.ext h rfl
    have hp := numB_pos (zig c.2)
    rw [h2, List.cons_append, readCut, if_neg (by omega), if_neg (by omega), readNum_num hr]
    rw [if_pos ⟨rfl, by simp only; omega, by rw [← h3]; exact hc⟩]
    simp only [List.length_cons]
    rw [← h3, Nat.add_comm]
theorem onS_ok {s : Nat} {n : Nat} (h : 0 < n) : onS (s, false) n = (s + n, false) := by
  have : (n == 0) = false := by simp; omega
  simp [onS, this]
theorem cutB_pos (c : Int × Int) : 0 < (cutB c).length := by
  unfold cutB; split
  · simp
  · split <;> simp
theorem drop_append {pre suf : List Nat} {n : Nat} (h : n = pre.length) : (pre ++ suf).drop n = suf := by rw [h, List.drop_left]
theorem spanS_cut {pre r : List Nat} {s : Sp} (h : s.right = true) (hr : s.rng) : spanS (pre ++ (cutsB s ++ r)) (pre.length, false) = (s, (pre.length + (cutsB s).length, false)) := by
  have h1 : rightC (s.a, s.b) = true := by simp [Sp.right, rightS] at h; exact h.1.1
  have h2 : rightC (s.c, s.d) = true := by simp [Sp.right, rightS] at h; exact h.1.2
  have e1 : cutS (pre ++ (cutsB s ++ r)) (pre.length, false) = ((s.a, s.b), (pre.length + (cutB (s.a, s.b)).length, false)) := by
    simp only [cutS, drop_append rfl]
    rw [cutsB, List.append_assoc, readCut_cut h1 hr.1, onS_ok (cutB_pos _)]
  have e2 : cutS (pre ++ (cutsB s ++ r)) (pre.length + (cutB (s.a, s.b)).length, false) = ((s.c, s.d), (pre.length + (cutB (s.a, s.b)).length + (cutB (s.c, s.d)).length, false)) := by
    simp only [cutS]
    rw [cutsB, ← List.append_assoc pre, ← List.append_assoc pre, List.append_assoc (pre ++ cutB (s.a, s.b)), drop_append (by simp), readCut_cut h2 hr.2, onS_ok (cutB_pos _)]
  simp only [spanS, e1, e2]
  simp only [cutsB, List.length_append, Nat.add_assoc]
theorem rowsN_all : ∀ (xs : List Sp) (pre r : List Nat), (∀ s ∈ xs, s.right = true) → (∀ s ∈ xs, s.rng) → rowsN (pre ++ (xs.flatMap cutsB ++ r)) xs.length (pre.length, false) = (xs, (pre.length + (xs.flatMap cutsB).length, false))
  | [], pre, r, _, _ => by simp [rowsN]
  | s :: xs, pre, r, h, hr => by
    have e := spanS_cut (pre := pre) (r := xs.flatMap cutsB ++ r) (h s (by simp)) (hr s (by simp))
    have ih := rowsN_all xs (pre ++ cutsB s) r (fun t ht => h t (by simp [ht])) (fun t ht => hr t (by simp [ht]))
    simp only [List.flatMap_cons, List.length_cons, List.append_assoc] at e ih ⊢
    rw [rowsN, e]
    simp only [Bool.false_eq_true, if_false]
    simp only [List.length_append] at ih ⊢
    rw [ih]
    simp only [Nat.add_assoc]
theorem sortedFrom_right : ∀ (xs : List Sp) (q : Option Sp), sortedFrom q xs = true → ∀ s ∈ xs, s.right = true
  | [], q, h, s, hs => by simp at hs
  | x :: xs, q, h, s, hs => by
    rw [sortedFrom.eq_def] at h
    simp only [Bool.and_eq_true] at h
    rcases List.mem_cons.1 hs with rfl | hs
    · exact h.1.1
    · exact sortedFrom_right xs _ h.2 s hs
theorem read_written {st : Int} {xs : List Sp} (hst : right10 st = true) (hf : fineS st xs = true) (hx : ∀ s ∈ xs, s.rng) (hl : xs.length ≤ 10000) : readSetS (setB st xs) = ⟨st, xs, (setB st xs).length, 0⟩ := by
  have hright : ∀ s ∈ xs, s.right = true := by
    simp [fineS] at hf; exact sortedFrom_right xs none hf.2
  have hst' : 0 ≤ st ∧ st ≤ 2 := by simpa [right10] using hst
  have hbl : (bodyB st xs).length ≤ 12 + 22 * xs.length := by
    have h1 := flat_len (m := 22) (g := cutsB) xs (fun s hs => cutsB_len (hx s hs))
    have h2 := num_len (n := (xs.length : Nat)) (by omega)
    simp [bodyB] at *; omega
  have hset : setB st xs = numB (zig (bodyB st xs).length) ++ bodyB st xs := by rw [setB, if_pos ⟨hst, hf⟩]
  have hr1 : rngI ((bodyB st xs).length : Int) := ⟨by omega, by omega⟩
  have hr2 : rngI (xs.length : Int) := ⟨by omega, by omega⟩
  have hp1 := numB_pos (zig (bodyB st xs).length)
  have hp2 := numB_pos (zig xs.length)
  rw [hset]
  generalize hA : numB (zig (bodyB st xs).length) = A at *
  have e1 : lengthS (A ++ bodyB st xs) (0, false) = (A.length, false) := by
    have := readNum_num hr1 (bodyB st xs)
    rw [hA] at this
    simp only [lengthS, this]
    rw [if_pos (by simp; omega), onS_ok hp1]; simp
  have e2 : (signS (A ++ bodyB st xs) (A.length, false) [1]).2 = (A.length + 1, false) := by
    have : (A ++ bodyB st xs)[A.length]? = some 1 := by simp [bodyB]
    simp only [signS, this]
    simp [onS_ok]
  have e3 : signS (A ++ bodyB st xs) (A.length + 1, false) [0, 1, 2] = (st.toNat, (A.length + 2, false)) := by
    have : (A ++ bodyB st xs)[A.length + 1]? = some st.toNat := by
      rw [List.getElem?_append_right (by omega)]; simp [bodyB]
    simp only [signS, this]
    rw [if_pos (by simp; omega), onS_ok (by omega)]
  have hsplit : A ++ bodyB st xs = (A ++ [1, st.toNat]) ++ (numB (zig xs.length) ++ xs.flatMap cutsB) := by simp [bodyB]
  have e4 : rowsS (A ++ bodyB st xs) (A.length + 2, false) = ((xs, A.length + 2 + (numB (zig xs.length)).length), ((A ++ bodyB st xs).length, false)) := by
    have hd : (A ++ bodyB st xs).drop (A.length + 2) = numB (zig xs.length) ++ xs.flatMap cutsB := by rw [hsplit, drop_append (by simp)]
    have hrn := readNum_num hr2 (xs.flatMap cutsB)
    have hrw : rowsN (A ++ bodyB st xs) xs.length (A.length + 2 + (numB (zig xs.length)).length, false) = (xs, ((A ++ bodyB st xs).length, false)) := by
      have := rowsN_all xs (A ++ [1, st.toNat] ++ numB (zig xs.length)) [] hright hx
      rw [List.append_nil] at this
      have e : A ++ [1, st.toNat] ++ numB (zig xs.length) ++ xs.flatMap cutsB = A ++ bodyB st xs := by simp [bodyB]
      rw [e] at this
      have e' : (A ++ [1, st.toNat] ++ numB (zig xs.length)).length = A.length + 2 + (numB (zig xs.length)).length := by simp; omega
      rw [e'] at this
      rw [this]
      congr 2
      simp [bodyB]; omega
    simp only [rowsS, hd, hrn]
    rw [if_neg (show ¬ ((xs.length : Int) < 0) by omega), onS_ok hp2]
    simp only [Bool.false_eq_true, if_false, Int.toNat_natCast, hrw]
  simp only [readSetS, e1, e2, e3, e4]
  have e5 : endS (A ++ bodyB st xs) ((A ++ bodyB st xs).length, false) (A.length + 2 + (numB (zig xs.length)).length) (fineS (st.toNat : Int) xs) = ((A ++ bodyB st xs).length, 0) := by
    rw [show ((st.toNat : Nat) : Int) = st by omega, hf]; simp [endS]
  rw [e5]
  simp only [if_true]
  congr 1
  omega
theorem numB_byte : ∀ (u : Nat) (b : Nat), b ∈ numB u → b < 256 := by
  intro u
  induction u using Nat.strongRecOn with
  | _ u ih =>
    intro b hb
    rw [numB] at hb
    split at hb
    · simp at hb; omega
    · rcases List.mem_cons.1 hb with rfl | hb
      · omega
      · exact ih (u / 128) (by omega) b hb
theorem cutB_byte {c : Int × Int} {b : Nat} (hb : b ∈ cutB c) : b < 256 := by
  unfold cutB at hb
  split at hb
  · simp at hb; omega
  · split at hb
    · simp at hb; omega
    · rcases List.mem_cons.1 hb with rfl | hb
      · omega
      · exact numB_byte _ b hb
theorem setB_byte {st : Int} {xs : List Sp} {b : Nat} (hb : b ∈ setB st xs) : b < 256 := by
  unfold setB at hb
  split at hb
  · rename_i h
    have hst' : 0 ≤ st ∧ st ≤ 2 := by simpa [right10] using h.1
    rcases List.mem_append.1 hb with hb | hb
    · exact numB_byte _ b hb
    · rw [bodyB] at hb
      simp only [List.mem_append, List.mem_cons, List.not_mem_nil, or_false, List.mem_flatMap, cutsB] at hb
      rcases hb with (((rfl | rfl) | hb) | ⟨s, _, hb | hb⟩)
      · omega
      · omega
      · exact numB_byte _ b hb
      · exact cutB_byte hb
      · exact cutB_byte hb
  · simp at hb
end Go.Proofs.YtmjaanhphkbkeaaGreat
end
