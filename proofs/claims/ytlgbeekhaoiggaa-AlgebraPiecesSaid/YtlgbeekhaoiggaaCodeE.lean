import Derived.Test.YtlgbeekhaoiggaaCodeD
set_option linter.all false
section
namespace Go.Proofs.Ytlgbeekhaoiggaa
open Go.AM
set_option maxHeartbeats 4000000
variable {f : Nat} {h : Heap}
def dedupF (x : Int × Int) : List (Int × Int) → List (Int × Int)
  | [] => []
  | y :: r => if y = x then dedupF x r else y :: dedupF y r
def dedup : List (Int × Int) → List (Int × Int)
  | [] => []
  | x :: r => x :: dedupF x r
theorem dedupF_snoc (y z : Int × Int) : ∀ (r : List (Int × Int)) (x : Int × Int), dedupF x (r ++ [y, z]) = dedupF x (r ++ [y]) ++ if z = y then [] else [z]
  | [], x => by simp only [dedupF, List.nil_append]; split <;> split <;> simp_all [dedupF]
  | a :: r, x => by
    simp only [List.cons_append, dedupF]
    split
    · exact dedupF_snoc y z r x
    · rw [dedupF_snoc y z r a]; rfl
theorem dedup_take {xs : List (Int × Int)} {i : Nat} (hi : i + 1 < xs.length) : dedup (xs.take (i + 2)) = dedup (xs.take (i + 1)) ++ if nth xs (i + 1) = nth xs i then [] else [nth xs (i + 1)] := by
  rw [show i + 2 = (i + 1) + 1 from rfl, nth_take hi, nth_take (show i < xs.length by omega), List.append_assoc]
  cases xs.take i with
  | nil => simp only [List.nil_append, dedup, List.cons_append, dedupF]
  | cons a r => simp only [List.cons_append, List.nil_append, dedup]; rw [dedupF_snoc]
theorem dedup_one {xs : List (Int × Int)} (h : 0 < xs.length) : dedup (xs.take 1) = xs.take 1 := by
  cases xs with
  | nil => simp at h
  | cons a r => rfl
theorem cu_one (xs : List (Int × Int)) : (elems cuC xs).all Go.AM.one = true := all_one_ints (elems_ints cuC_ints xs)
theorem compact_R {g : Nat} {w : Value} {xs : List (Int × Int)} (ho : Own g h 44 2 w (elems cuC xs)) (hf : f ≤ g) (hg : g ≤ h.size) (hl : xs.length ≤ 100000) : callR Xq ⟨f, []⟩ 106 [w] h fun w' h' => New g h' 44 2 w' (elems cuC (dedup xs)) ∧ Low g h h' := by
  refine callL rfl f106_is ?_
  have hr := ho.row cuC_len (by omega)
  have hR := hr.R cuC_len
  by_cases hn2 : xs.length < 2
  · have hd : dedup xs = xs := by
      clear hr hR ho
      match xs, hn2 with
      | [], _ => rfl
      | [x], _ => rfl
      | _ :: _ :: _, h => simp at h; omega
    simp (disch := first | omega | decide | with_unfolding_all rfl) [hR, hn2]
    exact ⟨by rw [hd]; exact ho.new (elems_ints cuC_ints _), .refl _ _⟩
  · rcases ho.ex with ⟨q, _⟩ | ⟨hp, b, n, rfl, qn, qc, qg⟩
    · have := elems_len cuC_len xs; rw [q] at this; simp at this; omega
    have hnn : n = xs.length := by have := elems_len cuC_len xs; omega
    subst hnn
    simp (disch := first | omega | decide | with_unfolding_all rfl) [hn2]
    obtain ⟨J, hJ⟩ : ∃ J : Nat → Env → Heap → Prop, J = fun i e h' => h' = h ∧ e 3 = .int .i64 ((i : Nat) + 1) ∧ i < xs.length ∧ dedup (xs.take (i + 1)) = xs.take (i + 1) := ⟨_, rfl⟩
    refine Run_while xlow [10, 11, 12, 13, 16, 17, 18, 19, 20, 21, 22, 23, 24, 25, 26, 27, 28, 4, 5, 29, 30, 31, 32, 35, 36, 37, 38, 39, 40, 41, 42, 43, 44, 45, 46, 47, 48, 49, 50, 51, 52, 53, 3, 33, 34, 5, 54, 55, 56, 57, 58, 59, 2, 14, 15, 3] (by omega) J (fun i => xs.length - i) 0 rfl (hJ ▸ ⟨rfl, by simp, by omega, dedup_one (by omega)⟩) ?_
    rintro i e h' j0 ke _
    rw [hJ] at j0
    obtain ⟨rfl, e3, hi, hd⟩ := j0
    have e0 : e 0 = .slice (some ⟨b, 0, none⟩) xs.length xs.length := by rw [ke 0 (by decide)]; simp
    clear ke
    have c1 := cellsB qc
    by_cases hlt : i + 1 < xs.length
    · have hdt := dedup_take hlt
      have g1 := grab_elems0 (xs := xs) cuC_len (show i < xs.length by omega) (Nat.le_refl 2)
      have g2 := grab_elems0 (xs := xs) cuC_len hlt (Nat.le_refl 2)
      by_cases hq : nth xs (i + 1) = nth xs i
      · rw [if_pos hq, hd, List.append_nil] at hdt
        simp +contextual (disch := first | omega | decide | with_unfolding_all rfl) [e0, e3, c1, g1, g2, cuC, hlt, -eqs_i, eqs_cu, hq, slV_lo qc]
        obtain ⟨I, hI⟩ : ∃ I : Nat × Nat × List (Int × Int) → Env → Heap → Prop, I = fun x e h2 => e 3 = .int .i64 (x.2.1 : Nat) ∧ e 5 = .int .i64 ((x.1 : Nat) + 1) ∧ i + 1 + x.1 < xs.length ∧ x.2.1 ≤ i + 1 + x.1 ∧ x.2.2.length = xs.length ∧ x.2.2.take x.2.1 = dedup (xs.take (i + 2 + x.1)) ∧
          (∀ t, i + 1 + x.1 ≤ t → nth x.2.2 t = nth xs t) ∧ h2[b]? = some (.cells (elems cuC x.2.2) 44) ∧ Low g h' h2 := ⟨_, rfl⟩
        refine Run_while xlow [29, 30, 31, 32, 35, 36, 37, 38, 39, 40, 41, 42, 43, 44, 45, 46, 47, 48, 49, 50, 51, 52, 53, 3, 33, 34, 5] (by omega) I (fun x => xs.length - x.1) (0, i + 1, xs) rfl (hI ▸ ⟨by simp [e3], by simp, by simp only; omega, by simp only; omega, rfl, by simp only; rw [hdt], fun _ _ => rfl, qc, .refl _ _⟩) ?_
        rintro ⟨k2, K, ys⟩ e2 h2 i0 ke _
        rw [hI] at i0
        obtain ⟨a3, a5, hk, hKk, hyl, hyt, hyn, hc2, hl2⟩ := i0
        simp only at a3 a5 hk hKk hyl hyt hyn hc2
        have a0 : e2 0 = .slice (some ⟨b, 0, none⟩) xs.length xs.length := by rw [ke 0 (by decide)]; simp [e0]
        have a4 : e2 4 = .slice (some ⟨b, (i + 1) * 2, none⟩) (xs.length - (i + 1)) (xs.length - (i + 1)) := by rw [ke 4 (by decide)]; simp
        clear ke
        have c2 := cellsB hc2
        have lt2 := ltB hc2
        by_cases hk2 : i + 2 + k2 < xs.length
        · have hdt2 := dedup_take (xs := xs) (i := i + 1 + k2) (by omega)
          have g3 := grab_elems0 (xs := ys) cuC_len (show i + 1 + k2 < ys.length by omega) (Nat.le_refl 2)
          have g4 := grab_elems0 (xs := ys) cuC_len (show i + 2 + k2 < ys.length by omega) (Nat.le_refl 2)
          rw [hyn _ (by omega)] at g3 g4
          rw [show (i + 1) + k2 + 2 = i + 2 + (k2 + 1) by omega, show i + 1 + k2 + 1 = i + 2 + k2 by omega] at hdt2
          have p1 : (i + 1) * 2 + (k2 + 1) * 2 = (i + 2 + k2) * 2 := by omega
          have p2 : (i + 1) * 2 + k2 * 2 = (i + 1 + k2) * 2 := by omega
          by_cases hq2 : nth xs (i + 2 + k2) = nth xs (i + 1 + k2)
          · rw [if_pos hq2, List.append_nil] at hdt2
            simp +contextual (disch := first | omega | decide | with_unfolding_all rfl) [a0, a3, a4, a5, c2, g3, g4, p1, p2, cuC, hk2, -eqs_i, eqs_cu, hq2]
            exact .mk (k2 + 1, K, ys) (hI ▸ ⟨by simp [a3], by simp, by simp only; omega, by simp only; omega, hyl, by simp only; rw [hdt2, hyt], fun t ht => hyn t (by simp only at ht; omega), hc2, hl2⟩) (by simp only; omega)
          · rw [if_neg hq2] at hdt2
            simp +contextual (disch := first | omega | decide | with_unfolding_all rfl) [a0, a3, a4, a5, c2, g3, g4, p1, p2, cuC, hk2, -eqs_i, eqs_cu, hq2]
            have hw := wr_elems (f := f) (y := nth xs (i + 2 + k2)) hc2 cuC_len (show f ≤ b by omega) (show K < ys.length by omega) rfl
            simp only [cuC] at hw
            rw [hw]
            simp (disch := first | omega | decide | with_unfolding_all rfl) [a3, a5]
            refine .mk (k2 + 1, K + 1, ys.set K (nth xs (i + 2 + k2))) (hI ▸ ⟨by simp, by simp, by simp only; omega, by simp only; omega, by simp only [List.length_set]; exact hyl, ?_, fun t ht => ?_, by simp only [cuC]; rw [Array.getElem?_setIfInBounds, if_pos rfl, if_pos lt2], hl2.setR qg _⟩) (by simp only; omega)
            · simp only; rw [hdt2, take_set (by omega), hyt]
            · simp only at ht ⊢; rw [nth_set (by omega), hyn t (by omega)]
        · simp +contextual (disch := first | omega | decide | with_unfolding_all rfl) [a0, a3, a4, a5, hk2, slV_lo hc2]
          have hyL := elems_len cuC_len ys
          rw [List.take_of_length_le (show xs.length ≤ i + 2 + k2 by omega)] at hyt
          have hdl : (dedup xs).length = K := by rw [← hyt, List.length_take]; omega
          have hpt : putAt (elems cuC ys) (K * 2) (List.replicate (xs.length - K) [Value.int IntKind.i64 0, Value.int IntKind.i64 0]).flatten = elems cuC (dedup xs) ++ (List.replicate (xs.length - K) [Value.int IntKind.i64 0, Value.int IntKind.i64 0]).flatten := by
            unfold putAt
            rw [elems_take cuC_len, hyt, List.drop_eq_nil_of_le (by simp; omega), List.append_nil]
          rw [clear_s hc2 (by omega) (by omega) rfl (by simp; omega), hpt]
          simp (disch := first | omega | decide | with_unfolding_all rfl) [a0, a3]
          have hc3 : (h2.setIfInBounds b (.cells (elems cuC (dedup xs) ++ (List.replicate (xs.length - K) [Value.int IntKind.i64 0, Value.int IntKind.i64 0]).flatten) 44))[b]? = some (.cells (elems cuC (dedup xs) ++ (List.replicate (xs.length - K) [Value.int IntKind.i64 0, Value.int IntKind.i64 0]).flatten) 44) := by
            rw [Array.getElem?_setIfInBounds, if_pos rfl, if_pos lt2]
          rw [slV_hi hc3 (by omega) (by omega)]
          simp
          refine ⟨⟨.inr ⟨b, K, xs.length, (List.replicate (xs.length - K) [Value.int IntKind.i64 0, Value.int IntKind.i64 0]).flatten, rfl, by omega, ?_, ?_, qg, ?_⟩⟩, hl2.setR qg _⟩
          · rw [elems_len cuC_len, hdl]
          · exact hc3
          · intro v hv
            rcases List.mem_append.1 hv with hv | hv
            · exact elems_ints cuC_ints _ v hv
            · obtain ⟨x, hx, hvx⟩ := List.mem_flatten.1 hv
              rw [List.eq_of_mem_replicate hx] at hvx
              simp at hvx; exact ⟨_, _, hvx⟩
      · rw [if_neg hq, hd, ← nth_take hlt] at hdt
        simp +contextual (disch := first | omega | decide | with_unfolding_all rfl) [e0, e3, c1, g1, g2, cuC, hlt, -eqs_i, eqs_cu, hq]
        exact .mk (i + 1) (hJ ▸ ⟨rfl, by simp, by omega, hdt⟩) (by omega)
    · have hx : xs.take (i + 1) = xs := List.take_of_length_le (by omega)
      rw [hx] at hd
      simp +contextual (disch := first | omega | decide | with_unfolding_all rfl) [e0, e3, hlt]
      exact ⟨by rw [hd]; exact ho.new (elems_ints cuC_ints _), .refl _ _⟩
end Go.Proofs.Ytlgbeekhaoiggaa
end

section
namespace Go.Proofs.Ytlgbeekhaoiggaa
open Go.AM Go.Sort
set_option maxHeartbeats 4000000
variable {f : Nat} {h : Heap}
theorem sort_R {α : Type} [Inhabited α] {enc : α → List Value} {dec : List Value → Option α} {k e : Nat} {cf : α → α → Int} {cmp g0 : FuncId} (hx : Xq.ext g0 = some (sSort enc dec k cf cmp)) (hk : ∀ x, (enc x).length = k) (h0 : 0 < k) (hd : ∀ x, dec (enc x) = some x) (hO : SWO (ltOf cf))
    (h1 : ∀ xs : List α, (elems enc xs).all Go.AM.one = true) {g : Nat} {w : Value} {xs : List α} (ho : Own g h e k w (elems enc xs)) (hf : f ≤ g) (hl : xs.length ≤ 100000) :
    callR Xq ⟨f, []⟩ g0 [w, .func (.func cmp) #[] #[]] h fun w' h' => Own g h' e k w (elems enc (sortL cf xs)) ∧ Low g h h' := by
  have hlen := elems_len hk xs
  have hsl := sortL_len hO xs
  have hlen2 := elems_len hk (sortL cf xs)
  rcases ho.ex with ⟨q1, q2⟩ | ⟨hp, b, n, rfl, qn, qc, qg⟩
  · have hx0 : xs.length = 0 := by
      rw [q1] at hlen
      rcases Nat.mul_eq_zero.1 hlen.symm with q | q
      · exact q
      · omega
    have hs0 : elems enc (sortL cf xs) = [] := List.eq_nil_of_length_eq_zero (by rw [hlen2, hsl, hx0]; simp)
    refine callR.of (Runs_ext hx (v := .tuple #[]) (h' := h) ?_) ⟨?_, .refl _ _⟩
    · rw [q2]; simp [sSort]
    · rw [hs0, q2]; exact .nil
  · have hn : n = xs.length := Nat.eq_of_mul_eq_mul_right h0 (qn.trans hlen)
    subst hn
    have hx0 : xs.length ≠ 0 := by intro q; rw [hlen, q] at hp; simp at hp
    have hlt := (Array.getElem?_eq_some_iff.1 qc).1
    have hg : grab (elems enc xs) 0 (xs.length * k) = some (elems enc xs) := by unfold grab; rw [if_pos (by omega), ← hlen]; simp
    have hw := wr_def (f := f) (off := 0) (vs := elems enc (sortL cf xs)) qc
    rw [if_pos ⟨by omega, h1 _, by rw [hlen2, hsl, hlen]; omega⟩] at hw
    have hput : putAt (elems enc xs) 0 (elems enc (sortL cf xs)) = elems enc (sortL cf xs) := by
      unfold putAt; rw [List.take_zero, List.nil_append, List.drop_eq_nil_of_le (by rw [hlen2, hsl, hlen]; omega), List.append_nil]
    rw [hput] at hw
    refine callR.of (Runs_ext hx (v := .tuple #[]) (h' := h.setIfInBounds b (.cells (elems enc (sortL cf xs)) e)) ?_) ⟨⟨.inr ⟨by rw [hlen2, hsl, ← hlen]; exact hp, b, xs.length, rfl, by rw [hlen2, hsl], by rw [Array.getElem?_setIfInBounds, if_pos rfl, if_pos hlt], qg⟩, h1 _⟩, .set qg _⟩
    simp only [sSort]
    rw [if_neg hx0, if_pos ⟨trivial, rfl, rfl, by omega⟩]
    simp only [Option.isSome_none, Bool.false_eq_true, if_false, qc, hg, Option.bind_some, decs_enc hk hd xs, hw, Option.map_some]
theorem sortCut_R {g : Nat} {w : Value} {xs : List (Int × Int)} (ho : Own g h 44 2 w (elems cuC xs)) (hf : f ≤ g) (hl : xs.length ≤ 100000) : callR Xq ⟨f, []⟩ 105 [w, .func (.func 103) #[] #[]] h fun w' h' => Own g h' 44 2 w (elems cuC (sortL cmpC xs)) ∧ Low g h h' :=
  sort_R rfl cuC_len (by omega) (fun _ => rfl) swoCut cu_one ho hf hl
theorem sortSpan_R {g : Nat} {w : Value} {xs : List Sp} (ho : Own g h 46 4 w (elems spC xs)) (hf : f ≤ g) (hl : xs.length ≤ 100000) : callR Xq ⟨f, []⟩ 96 [w, .func (.func 97) #[] #[]] h fun w' h' => Own g h' 46 4 w (elems spC (sortL cmpS xs)) ∧ Low g h h' :=
  sort_R rfl spC_len (by omega) (fun _ => rfl) swoSpan sp_one ho hf hl
theorem dedup_rise : ∀ {l : List (Int × Int)}, (∀ x ∈ l, okN x.2 ∧ canon x = x) → (l.Pairwise fun x y => ltOf cmpC y x = false) → Rise (dedup l) ∧ ∀ c, c ∈ dedup l ↔ c ∈ l
  | [], _, _ => ⟨⟨by simp [dedup], by simp [dedup]⟩, by simp [dedup]⟩
  | x :: l, h, p => by
    have key : ∀ (l : List (Int × Int)) (x : Int × Int), (∀ y ∈ x :: l, okN y.2 ∧ canon y = y) → ((x :: l).Pairwise fun x y => ltOf cmpC y x = false) → (∀ y ∈ dedupF x l, keyC x < keyC y ∧ y ∈ l) ∧ Rise (dedupF x l) ∧ ∀ c, c ∈ l → c = x ∨ c ∈ dedupF x l := by
      intro l
      induction l with
      | nil => intro x h p; exact ⟨by simp [dedupF], ⟨by simp [dedupF], by simp [dedupF]⟩, by simp⟩
      | cons y l ih =>
        intro x h p
        obtain ⟨p1, p2⟩ := List.pairwise_cons.1 p
        obtain ⟨p3, p4⟩ := List.pairwise_cons.1 p2
        have hx := h x (by simp)
        have hy := h y (by simp)
        have hle : keyC x ≤ keyC y := by
          have := p1 y (by simp)
          unfold ltOf at this
          rw [cmpC_dneg, lessC_key hy.1 hx.1] at this
          simpa using this
        unfold dedupF
        split
        · rename_i he
          subst he
          obtain ⟨i1, i2, i3⟩ := ih y (fun z hz => h z (by simp at hz ⊢; rcases hz with q | q <;> simp [q])) p2
          exact ⟨fun z hz => ⟨(i1 z hz).1, by simp [(i1 z hz).2]⟩, i2, fun c hc => by rcases List.mem_cons.1 hc with q | q; exact .inl q; exact i3 c q⟩
        · rename_i he
          obtain ⟨i1, i2, i3⟩ := ih y (fun z hz => h z (by simp at hz ⊢; rcases hz with q | q <;> simp [q])) p2
          have hlt : keyC x < keyC y := by
            rcases Int.lt_or_eq_of_le hle with q | q
            · exact q
            · exact absurd (key_inj hy.1 hx.1 hy.2 hx.2 q.symm) he
          refine ⟨fun z hz => ?_, ⟨fun z hz => ?_, List.pairwise_cons.2 ⟨fun z hz => (i1 z hz).1, i2.up⟩⟩, fun c hc => ?_⟩
          · rcases List.mem_cons.1 hz with rfl | hz
            · exact ⟨hlt, by simp⟩
            · have := (i1 z hz).1; exact ⟨by omega, by simp [(i1 z hz).2]⟩
          · rcases List.mem_cons.1 hz with rfl | hz
            · exact hy
            · exact i2.ok z hz
          · rcases List.mem_cons.1 hc with rfl | hc
            · exact .inr (by simp)
            · rcases i3 c hc with rfl | q
              · exact .inr (by simp)
              · exact .inr (by simp [q])
    obtain ⟨k1, k2, k3⟩ := key l x h p
    refine ⟨⟨fun z hz => ?_, List.pairwise_cons.2 ⟨fun z hz => (k1 z hz).1, k2.up⟩⟩, fun c => ⟨fun hc => ?_, fun hc => ?_⟩⟩
    · rcases List.mem_cons.1 hz with rfl | hz
      · exact h z (by simp)
      · exact k2.ok z hz
    · rcases List.mem_cons.1 hc with rfl | hc
      · simp
      · simp [(k1 c hc).2]
    · rcases List.mem_cons.1 hc with rfl | hc
      · simp [dedup]
      · rcases k3 c hc with rfl | q
        · simp [dedup]
        · simp [dedup, q]
theorem dedup_sort {l : List (Int × Int)} (h : ∀ x ∈ l, okN x.2) : dedup (sortL cmpC (l.map canon)) = riseL l := by
  have hp := sortL_perm swoCut (l.map canon)
  have ho : ∀ x ∈ sortL cmpC (l.map canon), okN x.2 ∧ canon x = x := fun x hx => by
    obtain ⟨y, hy, rfl⟩ := List.mem_map.1 (hp.mem_iff.1 hx)
    exact ⟨okN_canon (h y hy), canon_canon y⟩
  obtain ⟨r, m⟩ := dedup_rise ho (sortL_sorted swoCut _)
  refine riseL_eq h r fun c => ?_
  rw [m, hp.mem_iff, List.mem_map]
theorem cutSort_R {v : Value} {l : List (Int × Int)} (hr : CRow h v l) (hl : l.length ≤ 100000) (hok : ∀ x ∈ l, okN x.2) : callR Xq ⟨f, []⟩ 72 [v] h fun w' h' => New h.size h' 44 2 w' (elems cuC (riseL l)) ∧ Low h.size h h' := by
  refine callP rfl f72_is ?_
  have hR := hr.R cuC_len
  have hlt := hr.lt
  simp [hR]
  obtain ⟨J, hJ⟩ : ∃ J : Nat × Value → Env → Heap → Prop, J = fun x e h' => e 3 = x.2 ∧ e 8 = .int .i64 (x.1 : Nat) ∧ x.1 ≤ l.length ∧ Own h.size h' 44 2 x.2 (elems cuC ((l.take x.1).map canon)) := ⟨_, rfl⟩
  refine Run_while xlow [9, 10, 11, 5, 12, 13, 14, 15, 16, 3, 17, 8] (Nat.le_refl _) J (fun x => l.length - x.1) (0, .slice none 0 0) rfl (hJ ▸ ⟨by simp, by simp, by simp, .nil⟩) ?_
  rintro ⟨i, w⟩ e h' j0 ke hl'
  rw [hJ] at j0
  obtain ⟨e3, e8, hi, ho⟩ := j0
  simp only at e3 e8 hi ho
  have e6 : e 6 = v := by rw [ke 6 (by decide)]; simp
  have e7 : e 7 = .int .i64 l.length := by rw [ke 7 (by decide)]; simp
  clear ke
  have s1 := hl'.1
  by_cases hlt2 : i < l.length
  · have htk : (l.take (i + 1)).map canon = (l.take i).map canon ++ [canon (nth l i)] := by rw [nth_take hlt2]; simp
    have hcc : canon ((nth l i).1, (nth l i).2) = canon (nth l i) := rfl
    simp +contextual (disch := first | omega | decide | with_unfolding_all rfl) [e3, e6, e7, e8, hR, hl'.c, hlt2, RF_of (up canon_runs), cuC, hcc]
    refine RM_app1 (n := i) (ho.push _) (Nat.le_refl _) (by simp; omega) (by rw [elems_len cuC_len]; simp; omega) rfl (by omega) rfl (by omega) (by omega) fun w2 h2 o2 l2 => ?_
    simp (disch := first | omega | decide | with_unfolding_all rfl) [e8]
    exact .mk (i + 1, w2) (hJ ▸ ⟨by simp, by simp, by simp only; omega, by simp only; rw [htk]; simpa [cuC] using o2⟩) (by simp only; omega)
  · rw [List.take_of_length_le (by omega)] at ho
    simp +contextual (disch := first | omega | decide | with_unfolding_all rfl) [e3, e6, e7, e8, hR, hlt2]
    refine RF_by (sortCut_R ho (Nat.le_refl _) (by simpa using hl)) fun _ h2 ⟨o2, l2⟩ => ?_
    have s2 := l2.1
    simp [e3]
    refine RF_by (compact_R o2 (Nat.le_refl _) (by omega) (by rw [sortL_len swoCut]; simpa using hl)) fun w3 h3 ⟨o3, l3⟩ => ?_
    simp
    rw [dedup_sort hok] at o3
    exact RQ_new o3 fun w' h' a b => ⟨a, b⟩
theorem algCuts_R {v : Value} {xs : List Sp} (hr : SRow h v xs) (hl : xs.length ≤ 1000) (hx : ∀ x ∈ xs, okP x) : callR Xq ⟨f, []⟩ 37 [v] h fun w' h' => New h.size h' 44 2 w' (elems cuC (riseL (cutsOf xs))) ∧ Low h.size h h' := by
  refine callP rfl f37_is ?_
  have hR := hr.R spC_len
  have hlt := hr.lt
  simp [hR]
  obtain ⟨J, hJ⟩ : ∃ J : Nat × Value → Env → Heap → Prop, J = fun x e h' => e 3 = x.2 ∧ e 8 = .int .i64 (x.1 : Nat) ∧ x.1 ≤ xs.length ∧ Own h.size h' 44 2 x.2 (elems cuC (cutsOf (xs.take x.1))) := ⟨_, rfl⟩
  refine Run_while xlow [9, 10, 11, 5, 12, 13, 14, 15, 16, 17, 18, 19, 20, 3, 21, 8] (Nat.le_refl _) J (fun x => xs.length - x.1) (0, .slice none 0 0) rfl (hJ ▸ ⟨by simp, by simp, by simp, .nil⟩) ?_
  rintro ⟨i, w⟩ e h' j0 ke hl'
  rw [hJ] at j0
  obtain ⟨e3, e8, hi, ho⟩ := j0
  simp only at e3 e8 hi ho
  have e6 : e 6 = v := by rw [ke 6 (by decide)]; simp
  have e7 : e 7 = .int .i64 xs.length := by rw [ke 7 (by decide)]; simp
  clear ke
  have s1 := hl'.1
  by_cases hlt2 : i < xs.length
  · have hcl := cutsOf_len (xs.take i)
    rw [List.length_take, Nat.min_eq_left hi] at hcl
    have hrt : rightS (nth xs i).a (nth xs i).b (nth xs i).c (nth xs i).d = (nth xs i).right := rfl
    have htk : cutsOf (xs.take (i + 1)) = cutsOf (xs.take i) ++ cutS (nth xs i) := by rw [nth_take hlt2]; simp [cutsOf]
    by_cases hq : (nth xs i).right = true
    · rw [show cutS (nth xs i) = [((nth xs i).a, (nth xs i).b), ((nth xs i).c, (nth xs i).d)] from if_pos hq] at htk
      simp +contextual (disch := first | omega | decide | with_unfolding_all rfl) [e3, e6, e7, e8, hR, hl'.c, hlt2, RF_of (up rightS_runs), spC, hrt, hq]
      refine RM_appm (n := (cutsOf (xs.take i)).length) (ho.push _) (Nat.le_refl _) (by simp; omega) (by rw [elems_len cuC_len]) (by omega) rfl (by omega) rfl (by omega) (by omega) fun w2 h2 o2 l2 => ?_
      simp (disch := first | omega | decide | with_unfolding_all rfl) [e8]
      exact .mk (i + 1, w2) (hJ ▸ ⟨by simp, by simp, by simp only; omega, by simp only; rw [htk, elems_append]; exact o2⟩) (by simp only; omega)
    · have hq' : (nth xs i).right = false := by simpa using hq
      rw [show cutS (nth xs i) = [] from if_neg hq, List.append_nil] at htk
      simp +contextual (disch := first | omega | decide | with_unfolding_all rfl) [e3, e6, e7, e8, hR, hl'.c, hlt2, RF_of (up rightS_runs), spC, hrt, hq']
      exact .mk (i + 1, w) (hJ ▸ ⟨by simp [e3], by simp, by simp only; omega, by simp only; rw [htk]; exact ho.push _⟩) (by simp only; omega)
  · rw [List.take_of_length_le (by omega)] at ho
    have hrow := ho.row cuC_len (by omega)
    simp +contextual (disch := first | omega | decide | with_unfolding_all rfl) [e3, e6, e7, e8, hR, hlt2]
    refine RF_by (cutSort_R hrow (by have := cutsOf_len xs; omega) (cutsOf_ok hx)) fun w2 h2 ⟨o2, l2⟩ => ?_
    simp
    exact RQ_new (o2.weak s1) fun w' h' a b => ⟨a, b⟩
end Go.Proofs.Ytlgbeekhaoiggaa
end

section
namespace Go.Proofs.Ytlgbeekhaoiggaa
open Go.AM
set_option maxHeartbeats 4000000
variable {f : Nat} {h : Heap}
def least2 (a b : Int × Int) : Int × Int :=
  if lessC b (if lessC a (1, 0) = true then canon a else (1, 0)) = true then canon b else if lessC a (1, 0) = true then canon a else (1, 0)
def greatest2 (a b : Int × Int) : Int × Int :=
  if lessC (if lessC (-1, 0) a = true then canon a else (-1, 0)) b = true then canon b else if lessC (-1, 0) a = true then canon a else (-1, 0)
theorem least_runs {b : Nat} {p q r s : Int} (hb : b < h.size) (hc : h.cellsAt b = some [.int .i64 p, .int .i64 q, .int .i64 r, .int .i64 s]) : Runs Xq ⟨f, []⟩ 123 [.slice (some ⟨b, 0, none⟩) 2 2] h (.agg #[.int .i64 (least2 (p, q) (r, s)).1, .int .i64 (least2 (p, q) (r, s)).2]) h := by
  refine runs_R rfl f123_is ?_
  have key : ∀ u v : Int × Int, decide (cmpC u v < 0) = lessC u v := fun u v => cmpC_dneg
  have k1 := key (p, q) (1, 0)
  cases h1 : lessC (p, q) (1, 0) with
  | false =>
    rw [h1] at k1
    have k2 := key (r, s) (1, 0)
    cases h2 : lessC (r, s) (1, 0) <;> rw [h2] at k2 <;> simp at k1 k2 <;>
      simp (disch := first | omega | decide | with_unfolding_all rfl) [Run_unroll, RF_of (up last_runs), RF_of (up compare_runs), RF_of (up canon_runs), hc, least2, h1, h2, k1, k2]
  | true =>
    rw [h1] at k1
    have k2 := key (r, s) ((canon (p, q)).1, (canon (p, q)).2)
    cases h2 : lessC (r, s) (canon (p, q)) <;> rw [show lessC (r, s) ((canon (p, q)).1, (canon (p, q)).2) = _ from h2] at k2 <;> simp at k1 k2 <;>
      simp (disch := first | omega | decide | with_unfolding_all rfl) [Run_unroll, RF_of (up last_runs), RF_of (up compare_runs), RF_of (up canon_runs), hc, least2, h1, h2, k1, k2]
theorem greatest_runs {b : Nat} {p q r s : Int} (hb : b < h.size) (hc : h.cellsAt b = some [.int .i64 p, .int .i64 q, .int .i64 r, .int .i64 s]) : Runs Xq ⟨f, []⟩ 124 [.slice (some ⟨b, 0, none⟩) 2 2] h (.agg #[.int .i64 (greatest2 (p, q) (r, s)).1, .int .i64 (greatest2 (p, q) (r, s)).2]) h := by
  refine runs_R rfl f124_is ?_
  have key : ∀ u v : Int × Int, decide (0 < cmpC u v) = lessC v u := fun u v => cmpC_dpos
  have k1 := key (p, q) (-1, 0)
  cases h1 : lessC (-1, 0) (p, q) with
  | false =>
    rw [h1] at k1
    have k2 := key (r, s) (-1, 0)
    cases h2 : lessC (-1, 0) (r, s) <;> rw [h2] at k2 <;> simp at k1 k2 <;>
      simp (disch := first | omega | decide | with_unfolding_all rfl) [Run_unroll, RF_of (up first_runs), RF_of (up compare_runs), RF_of (up canon_runs), hc, greatest2, h1, h2, k1, k2]
  | true =>
    rw [h1] at k1
    have k2 := key (r, s) ((canon (p, q)).1, (canon (p, q)).2)
    cases h2 : lessC (canon (p, q)) (r, s) <;> rw [show lessC ((canon (p, q)).1, (canon (p, q)).2) (r, s) = _ from h2] at k2 <;> simp at k1 k2 <;>
      simp (disch := first | omega | decide | with_unfolding_all rfl) [Run_unroll, RF_of (up first_runs), RF_of (up compare_runs), RF_of (up canon_runs), hc, greatest2, h1, h2, k1, k2]
def spZ : Sp := ⟨0, 0, 0, 0⟩
def ofS (p q : Int × Int) : Sp := ⟨(canon p).1, (canon p).2, (canon q).1, (canon q).2⟩
abbrev spA (x : Sp) : Value := .agg #[.int .i64 x.a, .int .i64 x.b, .int .i64 x.c, .int .i64 x.d]
theorem of_runs {p q r s : Int} : Runs Xq ⟨f, []⟩ 157 [.agg #[.int .i64 p, .int .i64 q], .agg #[.int .i64 r, .int .i64 s]] h (.tuple #[spA (if (ofS (p, q) (r, s)).right = true then ofS (p, q) (r, s) else spZ), .int .i64 (if (ofS (p, q) (r, s)).right = true then 0 else 30)]) h := by
  refine runs_R rfl f157_is ?_
  have hr : rightS (canon (p, q)).1 (canon (p, q)).2 (canon (r, s)).1 (canon (r, s)).2 = (ofS (p, q) (r, s)).right := rfl
  cases hq : (ofS (p, q) (r, s)).right <;> rw [hq] at hr <;>
    simp (disch := first | omega | decide | with_unfolding_all rfl) [RF_of (up canon_runs), RF_of (up rightS_runs), hr, hq, spZ, ofS]
def meetS (x y : Sp) : Sp × Bool :=
  if (x.right && y.right) = true then
    (if (ofS (greatest2 (x.a, x.b) (y.a, y.b)) (least2 (x.c, x.d) (y.c, y.d))).right = true then (ofS (greatest2 (x.a, x.b) (y.a, y.b)) (least2 (x.c, x.d) (y.c, y.d)), true) else (spZ, false))
  else (spZ, false)
def hullS (x y : Sp) : Sp :=
  if (x.right && y.right) = true then ⟨(least2 (x.a, x.b) (y.a, y.b)).1, (least2 (x.a, x.b) (y.a, y.b)).2, (greatest2 (x.c, x.d) (y.c, y.d)).1, (greatest2 (x.c, x.d) (y.c, y.d)).2⟩ else spZ
theorem meetS_runs {x y : Sp} : Runs Xq ⟨f, []⟩ 121 [spA x, spA y] h (.tuple #[spA (meetS x y).1, .bool (meetS x y).2]) h := by
  refine runs_R rfl f121_is ?_
  have hb : (rightS x.a x.b x.c x.d && rightS y.a y.b y.c y.d) = (x.right && y.right) := rfl
  cases hq : (x.right && y.right) <;> rw [hq] at hb
  · simp (disch := first | omega | decide | with_unfolding_all rfl) [RF_of (up both_runs), hb, hq, spZ, meetS]
  · simp (disch := first | omega | decide | with_unfolding_all rfl) [RF_of (up both_runs), hb]
    rw [RF_of (greatest_runs (p := x.a) (q := x.b) (r := y.a) (s := y.b) (by simp) (by simp))]
    simp (disch := first | omega | decide | with_unfolding_all rfl)
    rw [RF_of (least_runs (p := x.c) (q := x.d) (r := y.c) (s := y.d) (by simp) (by simp))]
    simp (disch := first | omega | decide | with_unfolding_all rfl) [RF_of of_runs]
    have hg : ∀ u : Int × Int, (u.1, u.2) = u := fun _ => rfl
    cases ho : (ofS (greatest2 (x.a, x.b) (y.a, y.b)) (least2 (x.c, x.d) (y.c, y.d))).right <;> simp [meetS, hq, ho, hg, spZ]
theorem overlap_runs {x y : Sp} : Runs Xq ⟨f, []⟩ 98 [spA x, spA y] h (.bool (meetS x y).2) h := by
  refine runs_R rfl f98_is ?_
  simp (disch := first | omega | decide | with_unfolding_all rfl) [RF_of meetS_runs]
theorem hull_runs {x y : Sp} : Runs Xq ⟨f, []⟩ 100 [spA x, spA y] h (spA (hullS x y)) h := by
  refine runs_R rfl f100_is ?_
  have hb : (rightS x.a x.b x.c x.d && rightS y.a y.b y.c y.d) = (x.right && y.right) := rfl
  cases hq : (x.right && y.right) <;> rw [hq] at hb
  · simp (disch := first | omega | decide | with_unfolding_all rfl) [RF_of (up both_runs), hb, hq, spZ, hullS]
  · simp (disch := first | omega | decide | with_unfolding_all rfl) [RF_of (up both_runs), hb]
    rw [RF_of (least_runs (p := x.a) (q := x.b) (r := y.a) (s := y.b) (by simp) (by simp))]
    simp (disch := first | omega | decide | with_unfolding_all rfl)
    rw [RF_of (greatest_runs (p := x.c) (q := x.d) (r := y.c) (s := y.d) (by simp) (by simp))]
    simp (disch := first | omega | decide | with_unfolding_all rfl) [hullS, hq]
end Go.Proofs.Ytlgbeekhaoiggaa
end
