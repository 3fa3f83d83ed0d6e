import Derived.Test.YtmjaanhphkbkeaaGreatCodeN
set_option linter.all false
section
namespace Go.AM
variable {h : Heap}
/-- a tuple whose first is an aggregate with one new row at its end -/
theorem finish_agg {f e k n : Nat} {h0 : Heap} {w : Value} {l : List Value} {as_ bs : List Value} (hb : Buf h0.size h e k w l) (hk : 0 < k) (hn : n * k = l.length) (hf : f ≤ h0.size) (hl : l.all (vBelow h0.size) = true)
    (ha : ∀ v ∈ as_, vb 4 h0.size v = true ∧ vb 6 h0.size v = true) (hbs : ∀ v ∈ bs, vb 5 h0.size v = true ∧ vb 6 h0.size v = true) :
    ∃ w' h', finish .pure h0 h (.tuple (Value.agg (as_ ++ [w]).toArray :: bs).toArray) = some (.tuple (Value.agg (as_ ++ [w']).toArray :: bs).toArray, h') ∧ KeepB h0 h' none ∧ Buf f h' e k w' l ∧ Row h' e k w' n l := by
  have hstep : ∀ (x : Value) (seen : List Nat) (new : List AObj), vb 6 h0.size x = true → outAgg h0.size h seen new x = some (x, seen, new) := fun x seen new hx => by
    unfold outAgg vBelow; rw [if_pos hx]
  have hstepL : ∀ (x : Value) (seen : List Nat) (new : List AObj), vb 6 h0.size x = true → outLeaf h0.size h seen new x = some (x, seen, new) := fun x seen new hx => by
    unfold outLeaf vBelow; rw [if_pos hx]
  have hout : ∀ (xs : List Value) (seen : List Nat) (new : List AObj), (∀ v ∈ xs, vb 5 h0.size v = true ∧ vb 6 h0.size v = true) → outList (outAgg h0.size h) xs seen new = some (xs, seen, new) := by
    intro xs
    induction xs with
    | nil => intro _ _ _; rfl
    | cons x xs ih =>
      intro seen new hx
      rw [outList, hstep x seen new (hx x (by simp)).2]
      simp only [ih seen new (fun v hv => hx v (by simp [hv]))]
  rcases hb with ⟨rfl, rfl⟩ | ⟨b, m, rfl, hm, hc, hfb⟩
  · refine ⟨_, _, finish_pure ?_, .refl _ _, .inl ⟨rfl, rfl⟩, Buf.row (f := f) (.inl ⟨rfl, rfl⟩) hk hn⟩
    have h1 : as_.all (vb 4 h0.size) = true := by rw [List.all_eq_true]; exact fun v hv => (ha v hv).1
    have h2 : bs.all (vb 5 h0.size) = true := by rw [List.all_eq_true]; exact fun v hv => (hbs v hv).1
    simp only [vBelow, vb, List.all_append, List.all_cons, List.all_nil, h1, h2, Bool.and_self]
  · have hbuf : Buf f (h0.push (.cells l e)) e k (.slice (some ⟨h0.size, 0, none⟩) m m) l := .inr ⟨h0.size, m, rfl, hm, by simp, hf⟩
    refine ⟨_, h0.push (.cells l e), ?_, (KeepB.refl _ _).push _, hbuf, hbuf.row hk hn⟩
    have hlt : decide (b < h0.size) = false := by simp; omega
    have hvb : vBelow h0.size (.slice (some ⟨b, 0, none⟩) m m) = false := by
      simp [vBelow, vb]; omega
    have hva : ∀ d, vb (d + 2) h0.size (Value.agg (as_ ++ [Value.slice (some ⟨b, 0, none⟩) m m]).toArray) = false := by
      intro d
      simp only [vb, List.all_append, List.all_cons, List.all_nil]
      rw [hlt]; simp
    have hvt : vBelow h0.size (.tuple (Value.agg (as_ ++ [Value.slice (some ⟨b, 0, none⟩) m m]).toArray :: bs).toArray) = false := by
      show vb 6 h0.size _ = false
      rw [vb]
      simp only [List.all_cons, hva 3, Bool.false_and]
    have hmid : outLeaf h0.size h [] [] (.slice (some ⟨b, 0, none⟩) m m) = some (.slice (some ⟨h0.size, 0, none⟩) m m, [b], [.cells l e]) := by
      simp only [hvb, Bool.false_eq_true, if_false, outLeaf, Option.isSome_none, List.contains_nil, hlt, Bool.or_self, hc, Nat.zero_le, decide_true, List.drop_zero, hl, Bool.and_self, if_true, List.nil_append, List.length_nil, Nat.add_zero]
    have happ : ∀ (xs : List Value), (∀ v ∈ xs, vb 4 h0.size v = true ∧ vb 6 h0.size v = true) → outList (outLeaf h0.size h) (xs ++ [Value.slice (some ⟨b, 0, none⟩) m m]) [] [] = some (xs ++ [Value.slice (some ⟨h0.size, 0, none⟩) m m], [b], [.cells l e]) := by
      intro xs
      induction xs with
      | nil => intro _; simp only [List.nil_append, outList, hmid]
      | cons x xs ih =>
        intro hx
        rw [List.cons_append, outList, hstepL x _ _ (hx x (by simp)).2]
        simp only [ih (fun v hv => hx v (by simp [hv])), List.cons_append]
    have hag : outAgg h0.size h [] [] (Value.agg (as_ ++ [Value.slice (some ⟨b, 0, none⟩) m m]).toArray) = some (Value.agg (as_ ++ [Value.slice (some ⟨h0.size, 0, none⟩) m m]).toArray, [b], [.cells l e]) := by
      unfold outAgg
      rw [if_neg (by show ¬ vb 6 h0.size _ = true; rw [hva 4]; simp)]
      simp only [happ as_ ha]
    simp only [finish, outTop, hvt, Bool.false_eq_true, if_false, outList, hag, hout bs _ _ hbs, Option.map_some, List.foldl_cons, List.foldl_nil]
end Go.AM
namespace Go.Proofs.YtmjaanhphkbkeaaGreat
open Go.AM
set_option linter.unusedSimpArgs false
set_option linter.unusedVariables false
variable {f : Nat} {h : Heap}
/-! ### the reference's Read -/
def rowsP (l : List Nat) (m : Bool) : Nat → St → List Sg × St
  | 0, s => ([], s)
  | n + 1, s => if (partS l m s).2.2 then ([], (partS l m s).2) else ((partS l m s).1 :: (rowsP l m n (partS l m s).2).1, (rowsP l m n (partS l m s).2).2)
theorem rowsP_map (l : List Nat) : ∀ (n : Nat) (s : St), rowsP l true n s = rowsNM l n s
  | 0, s => rfl
  | n + 1, s => by
    rw [rowsP, rowsNM]
    simp only [partS, if_true, rowsP_map l n]
theorem rowsP_set (l : List Nat) : ∀ (n : Nat) (s : St), rowsP l false n s = ((rowsN l n s).1.map fun x => ⟨x, 0⟩, (rowsN l n s).2)
  | 0, s => rfl
  | n + 1, s => by
    have ih := rowsP_set l n (spanS l s).2
    have e : partS l false s = (⟨(spanS l s).1, 0⟩, (spanS l s).2) := rfl
    rw [rowsP, rowsN, e]
    simp only [ih]
    split <;> simp
structure RRow where
  (st : Int) (ab : Bool) (z : Int) (gs : List Sg) (at_ : Nat) (ok : Bool)
def fineP (m : Bool) (st : Int) (ab : Bool) (z : Int) (gs : List Sg) : Bool := if m then rightR st ab z && fineM st ab z gs else right10 st && fineS st (gs.map (·.s))
def readP (l : List Nat) (m : Bool) : RRow :=
  if (readNum l).2 = 0 ∨ (readNum l).1 ≠ (l.length : Int) - (readNum l).2 then ⟨0, false, 0, [], 0, false⟩ else
  let hd := headS l m (readNum l).2
  if hd.2.2 then ⟨0, false, 0, [], hd.2.1, false⟩ else
  let p := readNum (l.drop hd.2.1)
  if p.2 = 0 ∨ p.1 < 0 then ⟨0, false, 0, [], hd.2.1, false⟩ else
  let r := rowsP l m p.1.toNat (hd.2.1 + p.2, false)
  if r.2.2 then ⟨0, false, 0, [], r.2.1, false⟩ else
  if r.2.1 < l.length then ⟨0, false, 0, [], r.2.1, false⟩ else
  if fineP m hd.1.1 hd.1.2.1 hd.1.2.2 r.1 then ⟨hd.1.1, hd.1.2.1, hd.1.2.2, r.1, r.2.1, true⟩ else ⟨0, false, 0, [], hd.2.1 + p.2, false⟩
theorem partS_more {l : List Nat} {m : Bool} {s : St} (h : (partS l m s).2.2 = false) : s.2 = false ∧ s.1 < (partS l m s).2.1 := by
  cases m with
  | true => exact segS_more h
  | false => exact spanS_more h
theorem cutS_at {l : List Nat} {s : St} (h : s.1 ≤ l.length) : (cutS l s).2.1 ≤ l.length := by
  have := readCut_len (l.drop s.1)
  rw [List.length_drop] at this
  unfold cutS onS; simp only; split <;> simp <;> omega
theorem numS_at {l : List Nat} {s : St} (h : s.1 ≤ l.length) : (numS l s).2.1 ≤ l.length := by
  have := readNum_len (l.drop s.1)
  rw [List.length_drop] at this
  unfold numS onS; simp only; split <;> simp <;> omega
theorem partS_at {l : List Nat} {m : Bool} {s : St} (h : s.1 ≤ l.length) : (partS l m s).2.1 ≤ l.length := by
  have h1 : (spanS l s).2.1 ≤ l.length := cutS_at (cutS_at h)
  cases m with
  | true => exact numS_at h1
  | false => exact h1
theorem signS_at {l xs : List Nat} {s : St} (h : s.1 ≤ l.length) : (signS l s xs).2.1 ≤ l.length := by
  unfold signS
  split
  · rename_i b hb
    have := (List.getElem?_eq_some_iff.1 hb).1
    split
    · unfold onS; split <;> simp <;> omega
    · unfold onS; split <;> simp <;> omega
  · unfold onS; split <;> simp <;> omega
theorem headS_at {l : List Nat} {m : Bool} {a : Nat} (h : a ≤ l.length) : (headS l m a).2.1 ≤ l.length := by
  cases m with
  | true =>
    rw [headS_map]
    have h3 : (signS l (signS l (signS l (a, false) [2]).2 [0, 2]).2 [0, 1]).2.1 ≤ l.length := signS_at (signS_at (signS_at h))
    split
    · exact numS_at h3
    · exact h3
  | false => rw [headS_set]; exact signS_at (signS_at h)
/-- what Read gives -/
def ReadOut (h : Heap) (m : Bool) (x : RRow) (r : Value) (h' : Heap) : Prop := ∃ w, r = .tuple #[.agg #[.bool (m && x.ok), .int .i64 x.st, .bool x.ab, .int .i64 x.z, w], .int .i64 x.at_, .bool x.ok] ∧ KeepB h h' none ∧ GRow h' w x.gs ∧ x.gs.length ≤ 100000
theorem readOut_no {m : Bool} {a : Nat} {r : Value} (e : r = .tuple #[.agg #[.bool false, .int .i64 0, .bool false, .int .i64 0, .slice none 0 0], .int .i64 a, .bool false]) : ReadOut h m ⟨0, false, 0, [], a, false⟩ r h := by
  refine ⟨.slice none 0 0, ?_, .refl _ _, Buf.row (f := 0) (.inl ⟨rfl, rfl⟩) (by omega) rfl, by simp⟩
  rw [e]; cases m <;> rfl
set_option maxHeartbeats 4000000 in
theorem read_runs {l : List Nat} {m : Bool} (hl : l.length ≤ 10000) (hby : ∀ b ∈ l, b < 256) (hf : f ≤ h.size) :
    callR X ⟨f, []⟩ 12 [.string (strB l), .bool m] h (ReadOut h m (readP l m)) := by
  refine callR_of rfl f12_is ?_
  have hl' : l.length ≤ 100000 := by omega
  have hdl : ∀ i, (l.drop i).length ≤ 100000 := fun i => by rw [List.length_drop]; omega
  have hdb : ∀ i, ∀ b ∈ l.drop i, b < 256 := fun i b hb => hby b (List.mem_of_mem_drop hb)
  have htk : ∀ i, (l.drop i).take (l.length - i) = l.drop i := fun i => List.take_of_length_le (by rw [List.length_drop]; omega)
  have hc1 := fun (hh : Heap) => readNum2_runs (f := h.size) (h := hh) hl' hby
  obtain ⟨n1, k1, hr1⟩ : ∃ c n, readNum l = (c, n) := ⟨_, _, rfl⟩
  have hlen1 := readNum_len l
  have hrng1 := readNum_rng l
  rw [hr1] at hc1 hlen1 hrng1
  simp only at hc1 hlen1 hrng1
  have w1 : IntKind.i64.wrap ((l.length : Int) - k1) = (l.length : Int) - k1 := wrapI (by omega)
  by_cases hk1 : k1 = 0
  · have e : readP l m = ⟨0, false, 0, [], 0, false⟩ := by rw [readP, if_pos (.inl (by rw [hr1]; exact hk1))]
    have t1 : ((k1 : Int) == 0) = true := by simp [hk1]
    rw [e]
    simp only [f12r0, f12r1, f12r2, f12r3, f12r4, f12r5, f12r6, f12r7, f12r8, f12r9, f12r10, f12r11, f12r12, f12r13, f12r14, f12r15, f12r16, f12r17, f12r18, f12r19, f12r20, f12l21, f12r22, f12r23, f12r24, f12r25, f12r26, f12b]
    repeat (first
 | refine za ?_ | refine zb ?_ | refine zc ?_ | refine zd ?_ | refine ze ?_ | refine zf ?_ | refine zg ?_ | refine zh ?_ | (refine zi ?_; try refine RgD_plain rfl ?_) | refine w_drawn rfl ?_ | refine zj ?_ | refine zl ?_
 | ((first | apply zs | (apply zt; (focus rfl)) | (apply zu; (focus rfl)) | (apply zv; (focus rfl)) | apply zw | apply zx | apply zy | apply zB | apply zC | apply zD | apply zE | apply zF); (focus ((conv => lhs; simp [t1]); first | done | rfl)); first | apply zk | (apply zn; (focus rfl); try (focus (first | rfl | (simp [t1]; done)))) | (apply zo; (focus rfl)) | apply gv_u | apply gv_tt | apply gv_ff | apply gv_ft | apply gv_tf | exact (hc1 _)))
    exact readOut_no rfl
  · have t1 : ((k1 : Int) == 0) = false := by simp; omega
    by_cases hn1 : n1 = (l.length : Int) - k1
    · have t2 : (n1 != (l.length : Int) - k1) = false := by simp [hn1]
      have hk1l : k1 ≤ l.length := hlen1.1
      have hpre : readP l m = if (headS l m k1).2.2 then ⟨0, false, 0, [], (headS l m k1).2.1, false⟩ else
          if (readNum (l.drop (headS l m k1).2.1)).2 = 0 ∨ (readNum (l.drop (headS l m k1).2.1)).1 < 0 then ⟨0, false, 0, [], (headS l m k1).2.1, false⟩ else
          if (rowsP l m (readNum (l.drop (headS l m k1).2.1)).1.toNat ((headS l m k1).2.1 + (readNum (l.drop (headS l m k1).2.1)).2, false)).2.2 then ⟨0, false, 0, [], (rowsP l m (readNum (l.drop (headS l m k1).2.1)).1.toNat ((headS l m k1).2.1 + (readNum (l.drop (headS l m k1).2.1)).2, false)).2.1, false⟩ else
          if (rowsP l m (readNum (l.drop (headS l m k1).2.1)).1.toNat ((headS l m k1).2.1 + (readNum (l.drop (headS l m k1).2.1)).2, false)).2.1 < l.length then ⟨0, false, 0, [], (rowsP l m (readNum (l.drop (headS l m k1).2.1)).1.toNat ((headS l m k1).2.1 + (readNum (l.drop (headS l m k1).2.1)).2, false)).2.1, false⟩ else
          if fineP m (headS l m k1).1.1 (headS l m k1).1.2.1 (headS l m k1).1.2.2 (rowsP l m (readNum (l.drop (headS l m k1).2.1)).1.toNat ((headS l m k1).2.1 + (readNum (l.drop (headS l m k1).2.1)).2, false)).1 then
            ⟨(headS l m k1).1.1, (headS l m k1).1.2.1, (headS l m k1).1.2.2, (rowsP l m (readNum (l.drop (headS l m k1).2.1)).1.toNat ((headS l m k1).2.1 + (readNum (l.drop (headS l m k1).2.1)).2, false)).1, (rowsP l m (readNum (l.drop (headS l m k1).2.1)).1.toNat ((headS l m k1).2.1 + (readNum (l.drop (headS l m k1).2.1)).2, false)).2.1, true⟩
          else ⟨0, false, 0, [], (headS l m k1).2.1 + (readNum (l.drop (headS l m k1).2.1)).2, false⟩ := by
        rw [readP, if_neg (by rw [hr1]; simp only; intro q; rcases q with q | q; exact hk1 q; exact q hn1)]
        simp only [hr1]
      rw [hpre]
      obtain ⟨hd, hhd⟩ : ∃ x, headS l m k1 = x := ⟨_, rfl⟩
      have hda := headS_at (m := m) hk1l
      rw [hhd] at hda ⊢
      clear hpre
      simp only [f12b]
      generalize hR : (ACode.seq (.reg f12r10) _) = REST
      have hrest : ∀ (env : Env) (st : Int) (ab : Bool) (z : Int) (a0 k2 : Nat) (n2 : Int), env 0 = .string (strB l) → env 1 = .bool m → env 4 = .pointer (some ⟨h.size, 0, none⟩) → env 9 = .pointer (some ⟨h.size + 1, 0, none⟩) → env 10 = .int .i64 a0 → env 12 = .int .i64 n2 → env 13 = .int .i64 k2 → 0 ≤ n2 → n2 ≤ 9223372036854775807 → a0 + k2 ≤ l.length →
          Ok X ⟨h.size, []⟩ REST env ((h.push (.cells [.bool false, .int .i64 0, .bool false, .int .i64 0, .slice none 0 0] 27)).push (.cells [.int .i64 st, .bool ab, .int .i64 z] 23)) (EndsR [.cellN 4 5, .tmp 5, .tmp 6] .pure h (ReadOut h m
            (if (rowsP l m n2.toNat (a0 + k2, false)).2.2 then ⟨0, false, 0, [], (rowsP l m n2.toNat (a0 + k2, false)).2.1, false⟩ else
             if (rowsP l m n2.toNat (a0 + k2, false)).2.1 < l.length then ⟨0, false, 0, [], (rowsP l m n2.toNat (a0 + k2, false)).2.1, false⟩ else
             if fineP m st ab z (rowsP l m n2.toNat (a0 + k2, false)).1 then ⟨st, ab, z, (rowsP l m n2.toNat (a0 + k2, false)).1, (rowsP l m n2.toNat (a0 + k2, false)).2.1, true⟩ else ⟨0, false, 0, [], a0 + k2, false⟩))) := by
        intro env st ab z a0 k2 n2 e0 e1 e4 e9 e10 e12 e13 hn0 hn9 hak
        subst hR
        simp only [f12r0, f12r1, f12r2, f12r3, f12r4, f12r5, f12r6, f12r7, f12r8, f12r9, f12r10, f12r11, f12r12, f12r13, f12r14, f12r15, f12r16, f12r17, f12r18, f12r19, f12r20, f12l21, f12r22, f12r23, f12r24, f12r25, f12r26, f12b]
        have wa : IntKind.i64.wrap ((a0 : Int) + k2) = ((a0 + k2 : Nat) : Int) := by rw [wrapI (by omega)]; omega
        obtain ⟨b0, hb0⟩ : ∃ x, x = a0 + k2 := ⟨_, rfl⟩
        rw [← hb0] at wa hak ⊢
        repeat (first
 | refine za ?_ | refine zb ?_ | refine zc ?_ | refine zd ?_ | refine ze ?_ | refine zf ?_ | refine zg ?_ | refine zh ?_ | (refine zi ?_; try refine RgD_plain rfl ?_) | refine w_drawn rfl ?_ | refine zj ?_ | refine zl ?_
 | ((first | apply zs | (apply zt; (focus rfl)) | (apply zu; (focus rfl)) | (apply zv; (focus rfl)) | apply zx | apply zy | apply zB | apply zC | apply zD | apply zE | apply zF); (focus ((conv => lhs; simp [e0, e1, e4, e9, e10, e12, e13, wa]); first | done | rfl)); first | apply zk | (apply zn; (focus rfl); try (focus (first | rfl | (simp [e0, e1, e4, e9, e10, e12, e13, wa]; done)))) | (apply zo; (focus rfl)) | apply gv_u | apply gv_tt | apply gv_ff | apply gv_ft | apply gv_tf))
        obtain ⟨H, hH⟩ : ∃ H, H = ((h.push (.cells [.bool false, .int .i64 0, .bool false, .int .i64 0, .slice none 0 0] 27)).push (.cells [.int .i64 st, .bool ab, .int .i64 z] 23)).push (.cells [.bool m, .int .i64 st, .bool ab, .int .i64 z, .slice none 0 0] 27) := ⟨_, rfl⟩
        have hHs : H.size = h.size + 3 := by rw [hH]; simp
        have kH : KeepB h H none := by rw [hH]; exact (((KeepB.refl _ _).push _).push _).push _
        have hH0 : H[h.size]? = some (.cells [.bool false, .int .i64 0, .bool false, .int .i64 0, .slice none 0 0] 27) := by
          rw [hH, Array.getElem?_push, if_neg (by simp), Array.getElem?_push, if_neg (by simp), Array.getElem?_push, if_pos rfl]
        have hH2 : H[h.size + 1 + 1]? = some (.cells [.bool m, .int .i64 st, .bool ab, .int .i64 z, .slice none 0 0] 27) := by rw [hH, Array.getElem?_push, if_pos (by simp)]
        rw [← hH]
        refine w_loop (A := Nat × Value × List Sg × St) (fun A env h1 => A.1 ≤ n2.toNat ∧ env 0 = .string (strB l) ∧ env 1 = .bool m ∧ env 4 = .pointer (some ⟨h.size, 0, none⟩) ∧ env 15 = .pointer (some ⟨h.size + 1 + 1, 0, none⟩) ∧ env 12 = .int .i64 n2 ∧ env 16 = .int .i64 A.1 ∧ env 10 = .int .i64 A.2.2.2.1 ∧ env 14 = .int .i64 b0 ∧
            h1[h.size]? = some (.cells [.bool false, .int .i64 0, .bool false, .int .i64 0, .slice none 0 0] 27) ∧ h1[h.size + 1 + 1]? = some (.cells [.bool m, .int .i64 st, .bool ab, .int .i64 z, A.2.1] 27) ∧ Buf h.size h1 58 5 A.2.1 (elems sgC A.2.2.1) ∧ (blk A.2.1 = none ∨ ∃ b, blk A.2.1 = some b ∧ h.size + 1 + 1 < b) ∧ KeepB h h1 none ∧ A.2.2.1.length = A.1 ∧ A.1 ≤ A.2.2.2.1 ∧ A.2.2.2.1 ≤ l.length ∧ A.2.2.2.2 = false ∧
            rowsP l m n2.toNat (b0, false) = (A.2.2.1 ++ (rowsP l m (n2.toNat - A.1) A.2.2.2).1, (rowsP l m (n2.toNat - A.1) A.2.2.2).2)) (fun A => l.length - A.2.2.2.1) (a0 := (0, .slice none 0 0, [], (b0, false)))
          ⟨by simp, by simp [e0], by simp [e1], by simp [e4], by simp, by simp [e12], by simp, by simp, by simp, hH0, hH2, .inl ⟨rfl, rfl⟩, .inl rfl, kH, rfl, by simp, hak, rfl, by simp⟩ ?_
        clear e0 e1 e4 e9 e10 e12 e13
        rintro ⟨k, w, gs, s⟩ env h1 ⟨hkn, e0, e1, e4, e15, e12, e16, e10, e14, hz0, hz2, hbuf, hbl, hk, hgl, hks, hsl, hs2, hrn⟩
        simp only at hkn e0 e1 e4 e15 e12 e16 e10 e14 hz0 hz2 hbuf hbl hk hgl hks hsl hs2 hrn
        obtain ⟨s1, s2⟩ := s
        simp only at hs2; subst hs2
        simp only at e10 hks hsl
        have hz0l := (Array.getElem?_eq_some_iff.1 hz0).1
        have hz2l := (Array.getElem?_eq_some_iff.1 hz2).1
        have hc0 : h1.cellsAt h.size = some [.bool false, .int .i64 0, .bool false, .int .i64 0, .slice none 0 0] := by unfold Heap.cellsAt; rw [hz0]
        have hc2 : h1.cellsAt (h.size + 1 + 1) = some [.bool m, .int .i64 st, .bool ab, .int .i64 z, w] := by unfold Heap.cellsAt; rw [hz2]
        have m1 : ¬ h.size = h1.size := by omega
        have m2 : ¬ h.size + 1 + 1 = h1.size := by omega
        have m3 : ¬ h.size + 1 + 1 = h1.size + 1 := by omega
        have l1 : h.size ≤ h1.size := by omega
        have hw0 : ∀ off vs, wr ⟨h.size, []⟩ h1 h.size off vs = if h.size ≤ h.size ∧ vs.all one = true ∧ off + vs.length ≤ 5 then some (h1.setIfInBounds h.size (.cells (putAt [.bool false, .int .i64 0, .bool false, .int .i64 0, .slice none 0 0] off vs) 27)) else none := fun off vs => by rw [wr_def hz0]; rfl
        have hone : one w = true := by rcases hbuf with ⟨q, _⟩ | ⟨_, _, q, _⟩ <;> rw [q] <;> rfl
        by_cases hlt : k < n2.toNat
        · have t1 : decide ((k : Int) < n2) = true := by simp; omega
          have hd1 : n2.toNat - k = (n2.toNat - (k + 1)) + 1 := by omega
          rw [hd1, rowsP] at hrn
          have hpa := partS_at (m := m) (s := (s1, false)) hsl
          repeat (first
 | refine za ?_ | refine zb ?_ | refine zc ?_ | refine zd ?_ | refine ze ?_ | refine zf ?_ | refine zg ?_ | refine zh ?_ | (refine zi ?_; try refine RgD_plain rfl ?_) | refine w_drawn rfl ?_ | refine zj ?_ | refine zl ?_
 | ((first | apply zs | (apply zt; (focus rfl)) | (apply zu; (focus rfl)) | (apply zv; (focus rfl)) | apply zx | apply zy | apply zB | apply zC | apply zD | apply zE | apply zF); (focus ((conv => lhs; simp [e0, e1, e4, e15, e12, e16, e10, e14, t1]); first | done | rfl)); first | apply zk | (apply zn; (focus rfl); try (focus (first | rfl | (simp [e0, e1, e4, e15, e12, e16, e10, e14, t1]; done)))) | (apply zo; (focus rfl)) | apply gv_u | apply gv_tt | apply gv_ff | apply gv_ft | apply gv_tf))
          (apply zW; (focus ((conv => lhs; simp [e0, e1, e4, e15, e12, e16, e10, e14]); first | done | rfl)); (focus exact part_runs (m := m) hl' hby hsl)); intro v2 h2 q2
          obtain ⟨rfl, y, rfl, hy⟩ := q2
          cases hok : (partS l m (s1, false)).2.2 with
          | true =>
            rw [hok] at hrn
            simp only [if_true] at hrn
            have hz : (rowsP l m n2.toNat (b0, false)).2.2 = true := by rw [hrn]; exact hok
            rw [if_pos hz]
            have hat : (rowsP l m n2.toNat (b0, false)).2.1 = (partS l m (s1, false)).2.1 := by rw [hrn]
            rw [hat]
            repeat (first
 | refine za ?_ | refine zb ?_ | refine zc ?_ | refine zd ?_ | refine ze ?_ | refine zf ?_ | refine zg ?_ | refine zh ?_ | (refine zi ?_; try refine RgD_plain rfl ?_) | refine w_drawn rfl ?_ | refine zj ?_ | refine zl ?_
 | ((first | apply zs | (apply zt; (focus rfl)) | (apply zu; (focus rfl)) | (apply zv; (focus rfl)) | apply zx | apply zy | apply zB | apply zC | apply zD | apply zE | apply zF); (focus ((conv => lhs; simp [e0, e1, e4, e15, e12, e16, e10, e14, hok, l1, hw0, m1, hz0l, hc0]); first | done | rfl)); first | apply zk | (apply zn; (focus rfl); try (focus (first | rfl | (simp [e0, e1, e4, e15, e12, e16, e10, e14, hok, l1, hw0, m1, hz0l, hc0]; done)))) | (apply zo; (focus rfl)) | apply gv_u | apply gv_tt | apply gv_ff | apply gv_ft | apply gv_tf))
            exact readOut_no rfl
          | false =>
            rw [hok] at hrn
            simp only [Bool.false_eq_true, if_false] at hrn
            have hyx := hy hok
            have hm := partS_more hok
            simp only at hm
            have w1' := wadd (i := k) (by omega)
            have hbw0 : blk w ≠ some h.size := by
              rcases hbl with q | ⟨b, q, hb⟩
              · rw [q]; simp
              · rw [q]; intro q2; cases q2; omega
            have hbw2 : blk w ≠ some (h.size + 1 + 1) := by
              rcases hbl with q | ⟨b, q, hb⟩
              · rw [q]; simp
              · rw [q]; intro q2; cases q2; omega
            repeat (first
 | refine za ?_ | refine zb ?_ | refine zc ?_ | refine zd ?_ | refine ze ?_ | refine zf ?_ | refine zg ?_ | refine zh ?_ | (refine zi ?_; try refine RgD_plain rfl ?_) | refine w_drawn rfl ?_ | refine zj ?_ | refine zl ?_
 | ((first | apply zs | (apply zt; (focus rfl)) | (apply zu; (focus rfl)) | (apply zv; (focus rfl)) | apply zx | apply zy | apply zB | apply zC | apply zD | apply zE | apply zF); (focus ((conv => lhs; simp [e0, e1, e4, e15, e12, e16, e10, e14, hok, l1, m1, m2, m3, hc2]); first | done | rfl)); first | apply zk | (apply zn; (focus rfl); try (focus (first | rfl | (simp [e0, e1, e4, e15, e12, e16, e10, e14, hok, l1, m1, m2, m3, hc2]; done)))) | (apply zo; (focus rfl)) | apply gv_u | apply gv_tt | apply gv_ff | apply gv_ft | apply gv_tf))
            have hb5 : Buf h.size ((h2.push (.cells (sgC y) 58)).push (.cells (sgC y) 58)) 58 5 w (elems sgC gs) := (hbuf.push _).push _
            obtain ⟨v3, h3, a1, a2, a3, a4⟩ := append_buf (by_ := 40) (n := k) (m := 1) (x := .slice (some ⟨h2.size + 1, 0, none⟩) 1 1) (l2 := sgC y) (by omega) (by simp; omega) hb5 (by simp [srcCells, sgC]) (by omega) (by rw [elems_len sgC_len, hgl]) (elems_sg_one _) rfl (by omega) (by omega) rfl
            refine w_mem (v := v3) (h' := h3) rfl (by simpa [sgC] using a1) ?_
            have hsz3 := a3.1
            simp at hsz3
            have hz23 : h3[h.size + 1 + 1]? = some (.cells [.bool m, .int .i64 st, .bool ab, .int .i64 z, w] 27) := by
              rw [a3.2 _ (by simp; omega) hbw2, Array.getElem?_push, if_neg (by simp; omega), Array.getElem?_push, if_neg (by omega), hz2]
            have hz03 : h3[h.size]? = some (.cells [.bool false, .int .i64 0, .bool false, .int .i64 0, .slice none 0 0] 27) := by
              rw [a3.2 _ (by simp; omega) hbw0, Array.getElem?_push, if_neg (by simp; omega), Array.getElem?_push, if_neg (by omega), hz0]
            have hwr : ∀ off vs, wr ⟨h.size, []⟩ h3 (h.size + 1 + 1) off vs = if h.size ≤ h.size + 1 + 1 ∧ vs.all one = true ∧ off + vs.length ≤ 5 then some (h3.setIfInBounds (h.size + 1 + 1) (.cells (putAt [.bool m, .int .i64 st, .bool ab, .int .i64 z, w] off vs) 27)) else none := fun off vs => by rw [wr_def hz23]; rfl
            have ho2 : one v3 = true := by rcases a2 with ⟨q, _⟩ | ⟨_, _, q, _⟩ <;> rw [q] <;> rfl
            have hcl2 : v3.cells = #[v3] := by rcases a2 with ⟨q, _⟩ | ⟨_, _, q, _⟩ <;> rw [q] <;> rfl
            repeat (first
 | refine za ?_ | refine zb ?_ | refine zc ?_ | refine zd ?_ | refine ze ?_ | refine zf ?_ | refine zg ?_ | refine zh ?_ | (refine zi ?_; try refine RgD_plain rfl ?_) | refine w_drawn rfl ?_ | refine zj ?_ | refine zl ?_
 | ((first | apply zs | (apply zt; (focus rfl)) | (apply zu; (focus rfl)) | (apply zv; (focus rfl)) | apply zx | apply zy | apply zB | apply zC | apply zD | apply zE | apply zF); (focus ((conv => lhs; simp [e0, e1, e4, e15, e12, e16, e10, e14, hwr, ho2, hcl2, w1']); first | done | rfl)); first | apply zk | (apply zn; (focus rfl); try (focus (first | rfl | (simp [e0, e1, e4, e15, e12, e16, e10, e14, hwr, ho2, hcl2, w1']; done)))) | (apply zo; (focus rfl)) | apply gv_u | apply gv_tt | apply gv_ff | apply gv_ft | apply gv_tf))
            have kk3 : KeepB h h3 none := KeepB_new ((hk.push _).push _) a3 (by rcases hbl with q | ⟨b, q, hb⟩; exact .inl q; exact .inr ⟨b, q, by omega⟩)
            refine ⟨(k + 1, v3, gs ++ [y], (partS l m (s1, false)).2), ⟨by simp only; omega, by simp [e0], by simp [e1], by simp [e4], by simp [e15], by simp [e12], by simp, by simp, by simp [e14], ?_, ?_, ?_, .inr ⟨_, a4, by simp; omega⟩, kk3.set _ (.inl (by omega)), by simp [hgl], by simp only; omega, hpa, hok, ?_⟩, by simp only; omega⟩
            · rw [Array.getElem?_setIfInBounds, if_neg (by omega), hz03]
            · rw [Array.getElem?_setIfInBounds, if_pos rfl, if_pos (by omega)]
            · refine Buf.keep (h := h3) (x := some (h.size + 1 + 1)) (by simpa using a2) ((KeepB.refl h3 _).set _ (.inr rfl)) (.inr ?_)
              rw [a4]; simp; omega
            · rw [hrn, hyx]; simp
        · have t1 : decide ((k : Int) < n2) = false := by simp; omega
          have hd1 : n2.toNat - k = 0 := by omega
          rw [hd1, rowsP] at hrn
          simp only [List.append_nil] at hrn
          rw [hrn]
          simp only [Bool.false_eq_true, if_false]
          by_cases hsl2 : s1 < l.length
          · rw [if_pos hsl2]
            repeat (first
 | refine za ?_ | refine zb ?_ | refine zc ?_ | refine zd ?_ | refine ze ?_ | refine zf ?_ | refine zg ?_ | refine zh ?_ | (refine zi ?_; try refine RgD_plain rfl ?_) | refine w_drawn rfl ?_ | refine zj ?_ | refine zl ?_
 | ((first | apply zs | (apply zt; (focus rfl)) | (apply zu; (focus rfl)) | (apply zv; (focus rfl)) | apply zx | apply zy | apply zB | apply zC | apply zD | apply zE | apply zF); (focus ((conv => lhs; simp [e0, e1, e4, e15, e12, e16, e10, e14, t1, hsl2, l1, hw0, m1, hz0l, hc0]); first | done | rfl)); first | apply zk | (apply zn; (focus rfl); try (focus (first | rfl | (simp [e0, e1, e4, e15, e12, e16, e10, e14, t1, hsl2, l1, hw0, m1, hz0l, hc0]; done)))) | (apply zo; (focus rfl)) | apply gv_u | apply gv_tt | apply gv_ff | apply gv_ft | apply gv_tf))
            exact readOut_no rfl
          · rw [if_neg hsl2]
            have hrow : GRow h1 w gs := hbuf.row (by omega) (by rw [elems_len sgC_len])
            have hfine : Runs X ⟨h.size, []⟩ 8 [.agg #[.bool m, .int .i64 st, .bool ab, .int .i64 z, w]] h1 (.bool (fineP m st ab z gs)) h1 := by
              cases m with
              | true => exact fine8m_runs hrow (by omega)
              | false => exact fine7_runs hrow (by omega)
            cases hfi : fineP m st ab z gs with
            | false =>
              rw [hfi] at hfine
              simp only [Bool.false_eq_true, if_false]
              repeat (first
 | refine za ?_ | refine zb ?_ | refine zc ?_ | refine zd ?_ | refine ze ?_ | refine zf ?_ | refine zg ?_ | refine zh ?_ | (refine zi ?_; try refine RgD_plain rfl ?_) | refine w_drawn rfl ?_ | refine zj ?_ | refine zl ?_
 | ((first | apply zs | (apply zt; (focus rfl)) | (apply zu; (focus rfl)) | (apply zv; (focus rfl)) | apply zw | apply zx | apply zy | apply zB | apply zC | apply zD | apply zE | apply zF); (focus ((conv => lhs; simp [e0, e1, e4, e15, e12, e16, e10, e14, t1, hsl2, l1, hw0, m1, hz0l, hc0, hc2]); first | done | rfl)); first | apply zk | (apply zn; (focus rfl); try (focus (first | rfl | (simp [e0, e1, e4, e15, e12, e16, e10, e14, t1, hsl2, l1, hw0, m1, hz0l, hc0, hc2]; done)))) | (apply zo; (focus rfl)) | apply gv_u | apply gv_tt | apply gv_ff | apply gv_ft | apply gv_tf | exact hfine))
              exact readOut_no rfl
            | true =>
              rw [hfi] at hfine
              simp only [if_true]
              have hbw0 : blk w ≠ some h.size := by
                rcases hbl with q | ⟨b, q, hb⟩
                · rw [q]; simp
                · rw [q]; intro q2; cases q2; omega
              repeat (first
 | refine za ?_ | refine zb ?_ | refine zc ?_ | refine zd ?_ | refine ze ?_ | refine zf ?_ | refine zg ?_ | refine zh ?_ | (refine zi ?_; try refine RgD_plain rfl ?_) | refine w_drawn rfl ?_ | refine zj ?_ | refine zl ?_
 | ((first | apply zs | (apply zt; (focus rfl)) | (apply zu; (focus rfl)) | (apply zv; (focus rfl)) | apply zw | apply zx | apply zy | apply zB | apply zC | apply zD | apply zE | apply zF); (focus ((conv => lhs; simp [e0, e1, e4, e15, e12, e16, e10, e14, t1, hsl2, l1, hw0, m1, hz0l, hc0, hc2, hone]); first | done | rfl)); first | apply zk | (apply zn; (focus rfl); try (focus (first | rfl | (simp [e0, e1, e4, e15, e12, e16, e10, e14, t1, hsl2, l1, hw0, m1, hz0l, hc0, hc2, hone]; done)))) | (apply zo; (focus rfl)) | apply gv_u | apply gv_tt | apply gv_ff | apply gv_ft | apply gv_tf | exact hfine))
              have b5 : Buf h.size (h1.setIfInBounds h.size (.cells [.bool m, .int .i64 st, .bool ab, .int .i64 z, w] 27)) 58 5 w (elems sgC gs) :=
                hbuf.keep ((KeepB.refl h1 (some h.size)).set _ (.inr rfl)) (.inr hbw0)
              obtain ⟨w', h5, f1, f2, f3, f4⟩ := finish_agg (f := f) (h0 := h) (n := gs.length) (as_ := [.bool m, .int .i64 st, .bool ab, .int .i64 z]) (bs := [.int .i64 s1, .bool true]) b5 (by omega) (by rw [elems_len sgC_len]) hf (all_below_ints (elems_ints sgC_ints _)) (by simp [vb]) (by simp [vb])
              exact w_endr (vs := [.agg #[.bool m, .int .i64 st, .bool ab, .int .i64 z, w], .int .i64 s1, .bool true]) (by simp [e4, hz0l]) f1 ⟨w', by simp, f2, f4, by simp only; omega⟩
      simp only [f12r0, f12r1, f12r2, f12r3, f12r4, f12r5, f12r6, f12r7, f12r8, f12r9, f12r10, f12r11, f12r12, f12r13, f12r14, f12r15, f12r16, f12r17, f12r18, f12r19, f12r20, f12l21, f12r22, f12r23, f12r24, f12r25, f12r26, f12b]
      repeat (first
 | refine za ?_ | refine zb ?_ | refine zc ?_ | refine zd ?_ | refine ze ?_ | refine zf ?_ | refine zg ?_ | refine zh ?_ | (refine zi ?_; try refine RgD_plain rfl ?_) | refine w_drawn rfl ?_ | refine zj ?_ | refine zl ?_
 | ((first | apply zs | (apply zt; (focus rfl)) | (apply zu; (focus rfl)) | (apply zv; (focus rfl)) | apply zw | apply zx | apply zy | apply zB | apply zC | apply zD | apply zE | apply zF); (focus ((conv => lhs; simp [t1, t2, w1]); first | done | rfl)); first | apply zk | (apply zn; (focus rfl); try (focus (first | rfl | (simp [t1, t2, w1]; done)))) | (apply zo; (focus rfl)) | apply gv_u | apply gv_tt | apply gv_ff | apply gv_ft | apply gv_tf | exact (hc1 _)))
      (apply zW; (focus ((conv => lhs; simp); first | done | rfl)); (focus exact head_runs (m := m) hl' hby hk1l)); intro v2 h2 q2
      obtain ⟨rfl, st, ab, z, rfl, hq⟩ := q2
      rw [hhd] at hq ⊢
      cases hb : hd.2.2 with
      | true =>
        repeat (first
 | refine za ?_ | refine zb ?_ | refine zc ?_ | refine zd ?_ | refine ze ?_ | refine zf ?_ | refine zg ?_ | refine zh ?_ | (refine zi ?_; try refine RgD_plain rfl ?_) | refine w_drawn rfl ?_ | refine zj ?_ | refine zl ?_
 | ((first | apply zs | (apply zt; (focus rfl)) | (apply zu; (focus rfl)) | (apply zv; (focus rfl)) | apply zx | apply zy | apply zB | apply zC | apply zD | apply zE | apply zF); (focus ((conv => lhs; simp [hb]); first | done | rfl)); first | apply zk | (apply zn; (focus rfl); try (focus (first | rfl | (simp [hb]; done)))) | (apply zo; (focus rfl)) | apply gv_u | apply gv_tt | apply gv_ff | apply gv_ft | apply gv_tf))
        exact readOut_no rfl
      | false =>
        have hq := hq hb
        have hq1 : hd.1 = (st, ab, z) := hq.symm
        have hc2 := fun (hh : Heap) => readNum2_runs (f := h.size) (h := hh) (hdl hd.2.1) (hdb hd.2.1)
        obtain ⟨n2, k2, hr2⟩ : ∃ c n, readNum (l.drop hd.2.1) = (c, n) := ⟨_, _, rfl⟩
        have hlen2 := readNum_len (l.drop hd.2.1)
        have hrng2 := readNum_rng (l.drop hd.2.1)
        rw [hr2] at hc2 hlen2 hrng2
        rw [List.length_drop] at hlen2
        simp only at hc2 hlen2 hrng2
        rw [hr2, hq1]
        simp only [Bool.false_eq_true, if_false]
        by_cases hk2 : k2 = 0
        · have t3 : ((k2 : Int) == 0) = true := by simp [hk2]
          rw [if_pos (.inl hk2)]
          repeat (first
 | refine za ?_ | refine zb ?_ | refine zc ?_ | refine zd ?_ | refine ze ?_ | refine zf ?_ | refine zg ?_ | refine zh ?_ | (refine zi ?_; try refine RgD_plain rfl ?_) | refine w_drawn rfl ?_ | refine zj ?_ | refine zl ?_
 | ((first | apply zs | (apply zt; (focus rfl)) | (apply zu; (focus rfl)) | (apply zv; (focus rfl)) | apply zw | apply zx | apply zy | apply zB | apply zC | apply zD | apply zE | apply zF); (focus ((conv => lhs; simp [hb, bound, strB_ext, htk, hda, t3]); first | done | rfl)); first | apply zk | (apply zn; (focus rfl); try (focus (first | rfl | (simp [hb, bound, strB_ext, htk, hda, t3]; done)))) | (apply zo; (focus rfl)) | apply gv_u | apply gv_tt | apply gv_ff | apply gv_ft | apply gv_tf | exact (hc2 _)))
          exact readOut_no rfl
        · have t3 : ((k2 : Int) == 0) = false := by simp; omega
          by_cases hn2 : n2 < 0
          · have t4 : decide (n2 < 0) = true := by simp [hn2]
            rw [if_pos (.inr hn2)]
            repeat (first
 | refine za ?_ | refine zb ?_ | refine zc ?_ | refine zd ?_ | refine ze ?_ | refine zf ?_ | refine zg ?_ | refine zh ?_ | (refine zi ?_; try refine RgD_plain rfl ?_) | refine w_drawn rfl ?_ | refine zj ?_ | refine zl ?_
 | ((first | apply zs | (apply zt; (focus rfl)) | (apply zu; (focus rfl)) | (apply zv; (focus rfl)) | apply zw | apply zx | apply zy | apply zB | apply zC | apply zD | apply zE | apply zF); (focus ((conv => lhs; simp [hb, bound, strB_ext, htk, hda, t3, t4]); first | done | rfl)); first | apply zk | (apply zn; (focus rfl); try (focus (first | rfl | (simp [hb, bound, strB_ext, htk, hda, t3, t4]; done)))) | (apply zo; (focus rfl)) | apply gv_u | apply gv_tt | apply gv_ff | apply gv_ft | apply gv_tf | exact (hc2 _)))
            exact readOut_no rfl
          · have t4 : decide (n2 < 0) = false := by simp; omega
            rw [if_neg (by intro q; rcases q with q | q; exact hk2 q; exact hn2 q)]
            repeat (first
 | refine za ?_ | refine zb ?_ | refine zc ?_ | refine zd ?_ | refine ze ?_ | refine zf ?_ | refine zg ?_ | refine zh ?_ | (refine zi ?_; try refine RgD_plain rfl ?_) | refine w_drawn rfl ?_ | refine zj ?_ | refine zl ?_
 | ((first | apply zs | (apply zt; (focus rfl)) | (apply zu; (focus rfl)) | (apply zv; (focus rfl)) | apply zw | apply zx | apply zy | apply zB | apply zC | apply zD | apply zE | apply zF); (focus ((conv => lhs; simp [hb, bound, strB_ext, htk, hda, t3, t4]); first | done | rfl)); first | apply zk | (apply zn; (focus rfl); try (focus (first | rfl | (simp [hb, bound, strB_ext, htk, hda, t3, t4]; done)))) | (apply zo; (focus rfl)) | apply gv_u | apply gv_tt | apply gv_ff | apply gv_ft | apply gv_tf | exact (hc2 _)))
            refine hrest _ st ab z hd.2.1 k2 n2 ?_ ?_ ?_ ?_ ?_ ?_ ?_ (by omega) hrng2.2 (by omega)
            all_goals simp
    · have t2 : (n1 != (l.length : Int) - k1) = true := by simp [hn1]
      have e : readP l m = ⟨0, false, 0, [], 0, false⟩ := by rw [readP, if_pos (.inr (by rw [hr1]; exact hn1))]
      rw [e]
      simp only [f12r0, f12r1, f12r2, f12r3, f12r4, f12r5, f12r6, f12r7, f12r8, f12r9, f12r10, f12r11, f12r12, f12r13, f12r14, f12r15, f12r16, f12r17, f12r18, f12r19, f12r20, f12l21, f12r22, f12r23, f12r24, f12r25, f12r26, f12b]
      repeat (first
 | refine za ?_ | refine zb ?_ | refine zc ?_ | refine zd ?_ | refine ze ?_ | refine zf ?_ | refine zg ?_ | refine zh ?_ | (refine zi ?_; try refine RgD_plain rfl ?_) | refine w_drawn rfl ?_ | refine zj ?_ | refine zl ?_
 | ((first | apply zs | (apply zt; (focus rfl)) | (apply zu; (focus rfl)) | (apply zv; (focus rfl)) | apply zw | apply zx | apply zy | apply zB | apply zC | apply zD | apply zE | apply zF); (focus ((conv => lhs; simp [t1, t2, w1]); first | done | rfl)); first | apply zk | (apply zn; (focus rfl); try (focus (first | rfl | (simp [t1, t2, w1]; done)))) | (apply zo; (focus rfl)) | apply gv_u | apply gv_tt | apply gv_ff | apply gv_ft | apply gv_tf | exact (hc1 _)))
      exact readOut_no rfl
end Go.Proofs.YtmjaanhphkbkeaaGreat
end

section
namespace Go.Proofs.YtmjaanhphkbkeaaGreat
open Go.AM
set_option linter.unusedSimpArgs false
set_option linter.unusedVariables false
/-! ### what the program reads is what the reference reads -/
theorem signS_in {l xs : List Nat} {s : St} (h : (signS l s xs).2.2 = false) : s.2 = false ∧ l[s.1]? = some (signS l s xs).1 ∧ (signS l s xs).1 ∈ xs ∧ (signS l s xs).2.1 = s.1 + 1 := by
  unfold signS at h ⊢
  cases hb : l[s.1]? with
  | none => rw [hb] at h; simp [onS] at h
  | some b =>
    rw [hb] at h
    by_cases hx : b ∈ xs
    · simp only [if_pos hx] at h ⊢
      obtain ⟨q1, q2, _⟩ := onS_more h
      exact ⟨q1, by simp, hx, q2⟩
    · simp only [if_neg hx] at h
      simp [onS] at h
theorem st_eta {s : St} {b : Bool} (h : s.2 = b) : s = (s.1, b) := by cases s; simp at h; subst h; rfl
theorem rowsS_amiss {l : List Nat} {a : Nat} : rowsS l (a, true) = (([], a), (a, true)) := by simp [rowsS, onS]
theorem rowsSM_amiss {l : List Nat} {a : Nat} : rowsSM l (a, true) = (([], a), (a, true)) := by simp [rowsSM, onS]
theorem endS_amiss {l : List Nat} {a b : Nat} {fi : Bool} : endS l (a, true) b fi = (a, 190) := by simp [endS]
theorem onS_if {x n : Nat} {c : Int} : onS (x, false) (if c < 0 then 0 else n) = if n = 0 ∨ c < 0 then (x, true) else (x + n, false) := by
  by_cases h : c < 0
  · rw [if_pos h, if_pos (.inr h)]; simp [onS]
  · rw [if_neg h]
    by_cases hn : n = 0
    · rw [if_pos (.inl hn), hn]; simp [onS]
    · rw [if_neg (by intro q; rcases q with q | q; exact hn q; exact h q), onS_ok (by omega)]
theorem length_bad {l : List Nat} (h : (readNum l).2 = 0 ∨ (readNum l).1 ≠ (l.length : Int) - (readNum l).2) : lengthS l (0, false) = (0, true) := by
  unfold lengthS
  rcases h with h | h
  · rw [h]; split <;> simp [onS]
  · rw [if_neg h]; simp [onS]
theorem length_ok {l : List Nat} (h : ¬ ((readNum l).2 = 0 ∨ (readNum l).1 ≠ (l.length : Int) - (readNum l).2)) : lengthS l (0, false) = ((readNum l).2, false) := by
  simp only [not_or, ne_eq, Classical.not_not] at h
  unfold lengthS
  rw [if_pos h.2, onS_ok (by omega)]; simp
theorem right10_of {n : Nat} (h : n ∈ [0, 1, 2]) : right10 (n : Int) = true := by
  simp at h; rcases h with rfl | rfl | rfl <;> decide
theorem map_s {xs : List Sp} : (xs.map fun x => (⟨x, 0⟩ : Sg)).map (·.s) = xs := by simp [Function.comp_def]
theorem readSet_eq (l : List Nat) : readSetS l = ⟨(readP l false).st, (readP l false).gs.map (·.s), (readP l false).at_, if (readP l false).ok then 0 else 190⟩ := by
  by_cases hbad : (readNum l).2 = 0 ∨ (readNum l).1 ≠ (l.length : Int) - (readNum l).2
  · have e : readP l false = ⟨0, false, 0, [], 0, false⟩ := by rw [readP, if_pos hbad]
    have e1 : (signS l (0, true) [1]).2 = (0, true) := signS_amiss
    have e2 : (signS l (0, true) [0, 1, 2]).2 = (0, true) := signS_amiss
    rw [e]
    simp only [readSetS, length_bad hbad, e1, e2, rowsS_amiss, endS_amiss]
    rfl
  · have hp : readP l false = (let hd := headS l false (readNum l).2
        if hd.2.2 then ⟨0, false, 0, [], hd.2.1, false⟩ else
        let p := readNum (l.drop hd.2.1)
        if p.2 = 0 ∨ p.1 < 0 then ⟨0, false, 0, [], hd.2.1, false⟩ else
        let r := rowsP l false p.1.toNat (hd.2.1 + p.2, false)
        if r.2.2 then ⟨0, false, 0, [], r.2.1, false⟩ else
        if r.2.1 < l.length then ⟨0, false, 0, [], r.2.1, false⟩ else
        if fineP false hd.1.1 hd.1.2.1 hd.1.2.2 r.1 then ⟨hd.1.1, hd.1.2.1, hd.1.2.2, r.1, r.2.1, true⟩ else ⟨0, false, 0, [], hd.2.1 + p.2, false⟩) := by
      rw [readP, if_neg hbad]
    rw [hp]
    simp only [readSetS, length_ok hbad, headS_set, rowsP_set]
    generalize hg : signS l (signS l ((readNum l).2, false) [1]).2 [0, 1, 2] = g
    cases hm : g.2.2 with
    | true =>
      simp only [if_true]
      rw [st_eta hm, rowsS_amiss, endS_amiss]; rfl
    | false =>
      have hin := signS_in (l := l) (xs := [0, 1, 2]) (s := (signS l ((readNum l).2, false) [1]).2) (by rw [hg]; exact hm)
      rw [hg] at hin
      have h10 := right10_of hin.2.2.1
      simp only [Bool.false_eq_true, if_false]
      rw [st_eta hm]
      simp only [rowsS, onS_if]
      generalize readNum (l.drop g.2.1) = p
      by_cases hb : p.2 = 0 ∨ p.1 < 0
      · rw [if_pos hb, if_pos hb]
        simp only [if_true, endS_amiss]
        rfl
      · rw [if_neg hb, if_neg hb]
        simp only [Bool.false_eq_true, if_false]
        generalize rowsN l p.1.toNat (g.2.1 + p.2, false) = r
        cases hr : r.2.2 with
        | true =>
          simp only [if_true]
          rw [st_eta hr, endS_amiss]; rfl
        | false =>
          simp only [Bool.false_eq_true, if_false]
          rw [st_eta hr]
          by_cases hl : r.2.1 < l.length
          · rw [if_pos hl]
            have : endS l (r.2.1, false) (g.2.1 + p.2) (fineS (g.1 : Int) r.1) = (r.2.1, 190) := by simp [endS, hl]
            simp only [this]; rfl
          · rw [if_neg hl]
            simp only [fineP, Bool.false_eq_true, if_false, map_s, h10, Bool.true_and]
            cases hf : fineS (g.1 : Int) r.1 with
            | true =>
              have : endS l (r.2.1, false) (g.2.1 + p.2) true = (r.2.1, 0) := by simp [endS, hl]
              simp only [this, if_true, map_s]
            | false =>
              have : endS l (r.2.1, false) (g.2.1 + p.2) false = (g.2.1 + p.2, 190) := by simp [endS, hl]
              simp only [this, Bool.false_eq_true, if_false]; rfl
theorem signS_at_amiss {l xs : List Nat} {s : St} (h : s.2 = true) : (signS l s xs).2 = (s.1, true) := by
  rw [st_eta h]; exact signS_amiss
theorem right_of {n : Nat} {ab : Bool} {z : Int} (h : n ∈ [0, 2]) (hz : ab = true ∨ z = 0) : rightR (n : Int) ab z = true := by
  simp at h; rcases h with rfl | rfl <;> rcases hz with rfl | rfl <;> simp [rightR]
theorem readMap_eq (l : List Nat) : readMapS l = ⟨(readP l true).st, (readP l true).ab, (readP l true).z, (readP l true).gs, (readP l true).at_, if (readP l true).ok then 0 else 190⟩ := by
  by_cases hbad : (readNum l).2 = 0 ∨ (readNum l).1 ≠ (l.length : Int) - (readNum l).2
  · have e : readP l true = ⟨0, false, 0, [], 0, false⟩ := by rw [readP, if_pos hbad]
    have e1 : (signS l (0, true) [2]).2 = (0, true) := signS_amiss
    have e2 : (signS l (0, true) [0, 2]).2 = (0, true) := signS_amiss
    have e3 : (signS l (0, true) [0, 1]).2 = (0, true) := signS_amiss
    have e4 : (numS l (0, true)).2 = (0, true) := numS_amiss
    rw [e]
    simp only [readMapS, length_bad hbad, e1, e2, e3, e4, readTail, rowsSM_amiss, endS_amiss]
    split <;> rfl
  · have hp : readP l true = (let hd := headS l true (readNum l).2
        if hd.2.2 then ⟨0, false, 0, [], hd.2.1, false⟩ else
        let p := readNum (l.drop hd.2.1)
        if p.2 = 0 ∨ p.1 < 0 then ⟨0, false, 0, [], hd.2.1, false⟩ else
        let r := rowsP l true p.1.toNat (hd.2.1 + p.2, false)
        if r.2.2 then ⟨0, false, 0, [], r.2.1, false⟩ else
        if r.2.1 < l.length then ⟨0, false, 0, [], r.2.1, false⟩ else
        if fineP true hd.1.1 hd.1.2.1 hd.1.2.2 r.1 then ⟨hd.1.1, hd.1.2.1, hd.1.2.2, r.1, r.2.1, true⟩ else ⟨0, false, 0, [], hd.2.1 + p.2, false⟩) := by
      rw [readP, if_neg hbad]
    have tail : ∀ (st : Int) (ab : Bool) (z : Int) (s : St), (s.2 = false → rightR st ab z = true) → readTail l st ab z s = (
        let r : RRow := (if s.2 then ⟨0, false, 0, [], s.1, false⟩ else
          let p := readNum (l.drop s.1)
          if p.2 = 0 ∨ p.1 < 0 then ⟨0, false, 0, [], s.1, false⟩ else
          let r := rowsP l true p.1.toNat (s.1 + p.2, false)
          if r.2.2 then ⟨0, false, 0, [], r.2.1, false⟩ else
          if r.2.1 < l.length then ⟨0, false, 0, [], r.2.1, false⟩ else
          if fineP true st ab z r.1 then ⟨st, ab, z, r.1, r.2.1, true⟩ else ⟨0, false, 0, [], s.1 + p.2, false⟩)
        ⟨r.st, r.ab, r.z, r.gs, r.at_, if r.ok then 0 else 190⟩) := by
      intro st ab z s hri
      cases hm : s.2 with
      | true =>
        simp only [if_true, readTail]
        rw [st_eta hm, rowsSM_amiss, endS_amiss]; rfl
      | false =>
        have hri := hri hm
        simp only [Bool.false_eq_true, if_false, readTail]
        rw [st_eta hm]
        simp only [rowsSM, onS_if, rowsP_map]
        generalize readNum (l.drop s.1) = p
        by_cases hb : p.2 = 0 ∨ p.1 < 0
        · rw [if_pos hb, if_pos hb]
          simp only [if_true, endS_amiss]
          rfl
        · rw [if_neg hb, if_neg hb]
          simp only [Bool.false_eq_true, if_false]
          generalize rowsNM l p.1.toNat (s.1 + p.2, false) = r
          cases hr : r.2.2 with
          | true =>
            simp only [if_true]
            rw [st_eta hr, endS_amiss]; rfl
          | false =>
            simp only [Bool.false_eq_true, if_false]
            rw [st_eta hr]
            by_cases hl : r.2.1 < l.length
            · rw [if_pos hl]
              have : endS l (r.2.1, false) (s.1 + p.2) (fineM st ab z r.1) = (r.2.1, 190) := by simp [endS, hl]
              simp only [this]; rfl
            · rw [if_neg hl]
              simp only [fineP, if_true, hri, Bool.true_and]
              cases hf : fineM st ab z r.1 with
              | true =>
                have : endS l (r.2.1, false) (s.1 + p.2) true = (r.2.1, 0) := by simp [endS, hl]
                simp only [this, if_true]
              | false =>
                have : endS l (r.2.1, false) (s.1 + p.2) false = (s.1 + p.2, 190) := by simp [endS, hl]
                simp only [this, Bool.false_eq_true, if_false]; rfl
    obtain ⟨g, hg⟩ : ∃ g, signS l (signS l ((readNum l).2, false) [2]).2 [0, 2] = g := ⟨_, rfl⟩
    obtain ⟨a, ha⟩ : ∃ a, signS l g.2 [0, 1] = a := ⟨_, rfl⟩
    have hhd : headS l true (readNum l).2 = if a.1 = 1 then (((g.1 : Int), !(numS l a.2).2.2, (numS l a.2).1), (numS l a.2).2) else (((g.1 : Int), false, 0), a.2) := by rw [headS_map, hg, ha]
    have hgin : a.2.2 = false → g.1 ∈ [0, 2] := by
      intro h
      have h1 := signS_in (l := l) (xs := [0, 1]) (s := g.2) (by rw [ha]; exact h)
      have h2 := signS_in (l := l) (xs := [0, 2]) (s := (signS l ((readNum l).2, false) [2]).2) (by rw [hg]; exact h1.1)
      rw [hg] at h2; exact h2.2.2.1
    have hrm : readMapS l = if a.1 = 1 then readTail l g.1 (!(numS l a.2).2.2) (numS l a.2).1 (numS l a.2).2 else readTail l g.1 false 0 a.2 := by
      simp only [readMapS, length_ok hbad, hg, ha]
    rw [hrm]
    by_cases h1 : a.1 = 1
    · rw [if_pos h1] at hhd ⊢
      rw [tail _ _ _ _ (fun h => by
        have h0 : a.2.2 = false := (onS_more (s := a.2) h).1
        exact right_of (hgin h0) (.inl (by rw [h]; rfl)))]
      rw [hp, hhd]
    · rw [if_neg h1] at hhd ⊢
      rw [tail _ _ _ _ (fun h => right_of (hgin h) (.inr rfl))]
      rw [hp, hhd]
end Go.Proofs.YtmjaanhphkbkeaaGreat
end

section
namespace Go.Proofs.YtmjaanhphkbkeaaGreat
open Go.AM
set_option linter.unusedSimpArgs false
set_option linter.unusedVariables false
/-! ### what is read, written, is the bytes -/
theorem readNum_inv {l : List Nat} {n : Int} {k : Nat} (h : readNum l = (n, k)) (hk : k ≠ 0) : l = numB (zig n) ++ l.drop k ∧ (numB (zig n)).length = k ∧ rngI n := by
  unfold readNum at h
  split at h
  · cases h; exact absurd rfl hk
  · rename_i u m e
    split at h
    · rename_i hq
      cases h
      have hw : u % 2 ^ 64 < 2 ^ 64 := Nat.mod_lt _ (by decide)
      have hl := getU_len _ _ _ _ e
      rw [zig_unzig, hq]
      exact ⟨(List.take_append_drop k l).symm, by rw [List.length_take]; omega, unzig_rng hw⟩
    · cases h; exact absurd rfl hk
theorem cut_neg : cutB (-1, 0) = [0] := by simp [cutB, canon]
theorem cut_pos : cutB (1, 0) = [2] := by simp [cutB, canon]
theorem readCut_inv {l : List Nat} {c : Int × Int} {k : Nat} (h : readCut l = (c, k)) (hk : k ≠ 0) : l = cutB c ++ l.drop k ∧ rngI c.2 := by
  cases l with
  | nil => simp [readCut] at h; exact absurd h.2.symm hk
  | cons b r =>
    rw [readCut] at h
    split at h
    · rename_i hb; cases h; subst hb
      exact ⟨by rw [cut_neg]; rfl, by simp [rngI]⟩
    · split at h
      · rename_i hb; cases h; subst hb
        exact ⟨by rw [cut_pos]; rfl, by simp [rngI]⟩
      · split at h
        · rename_i hq
          cases h
          obtain ⟨h1, h2, h3⟩ := readNum_inv (l := r) (n := (readNum r).1) (k := (readNum r).2) rfl hq.2.1
          have hcc : canon (0, (readNum r).1) = (0, (readNum r).1) := by
            have := hq.2.2
            simp [rightC] at this; exact Prod.ext this.1 this.2
          refine ⟨?_, h3⟩
          have : cutB (0, (readNum r).1) = 1 :: numB (zig (readNum r).1) := by simp [cutB, hcc]
          rw [this, hq.1, List.cons_append, Nat.add_comm, List.drop_succ_cons, ← h1]
        · cases h; exact absurd rfl hk
theorem cutS_inv {l : List Nat} {a b : Nat} {c : Int × Int} (h : cutS l (a, false) = (c, (b, false))) : l.drop a = cutB c ++ l.drop b ∧ rngI c.2 := by
  unfold cutS at h
  simp only [Prod.mk.injEq] at h
  obtain ⟨q1, q2⟩ := h
  have hm : (onS (a, false) (readCut (l.drop a)).2).2 = false := by rw [q2]
  obtain ⟨_, q3, q4⟩ := onS_more hm
  rw [q2] at q3
  simp only at q3
  obtain ⟨h1, h2⟩ := readCut_inv (l := l.drop a) (c := (readCut (l.drop a)).1) (k := (readCut (l.drop a)).2) rfl (by omega)
  rw [q1] at h1 h2
  rw [List.drop_drop, ← q3] at h1
  exact ⟨h1, h2⟩
theorem numS_inv {l : List Nat} {a b : Nat} {n : Int} (h : numS l (a, false) = (n, (b, false))) : l.drop a = numB (zig n) ++ l.drop b ∧ rngI n := by
  unfold numS at h
  simp only [Prod.mk.injEq] at h
  obtain ⟨q1, q2⟩ := h
  have hm : (onS (a, false) (readNum (l.drop a)).2).2 = false := by rw [q2]
  obtain ⟨_, q3, q4⟩ := onS_more hm
  rw [q2] at q3
  simp only at q3
  obtain ⟨h1, h2, h3⟩ := readNum_inv (l := l.drop a) (n := (readNum (l.drop a)).1) (k := (readNum (l.drop a)).2) rfl (by omega)
  rw [q1] at h1 h3
  rw [List.drop_drop, ← q3] at h1
  exact ⟨h1, h3⟩
theorem spanS_inv {l : List Nat} {a b : Nat} {s : Sp} (h : spanS l (a, false) = (s, (b, false))) : l.drop a = cutsB s ++ l.drop b ∧ s.rng := by
  unfold spanS at h
  simp only [Prod.mk.injEq] at h
  obtain ⟨q1, q2⟩ := h
  have hm : (cutS l (cutS l (a, false)).2).2.2 = false := by rw [q2]
  have hm1 : (cutS l (a, false)).2.2 = false := (onS_more (s := (cutS l (a, false)).2) hm).1
  obtain ⟨x, hx⟩ : ∃ x, cutS l (a, false) = (x, ((cutS l (a, false)).2.1, false)) := ⟨_, Prod.ext rfl (st_eta hm1)⟩
  obtain ⟨b1, hb1⟩ : ∃ b1, b1 = (cutS l (a, false)).2.1 := ⟨_, rfl⟩
  rw [← hb1] at hx
  rw [hx] at q1 q2
  simp only at q1 q2
  obtain ⟨y, hy⟩ : ∃ y, cutS l (b1, false) = (y, (b, false)) := ⟨_, Prod.ext rfl q2⟩
  rw [hy] at q1
  simp only at q1
  obtain ⟨h1, r1⟩ := cutS_inv hx
  obtain ⟨h2, r2⟩ := cutS_inv hy
  subst q1
  exact ⟨by rw [h1, h2, cutsB, List.append_assoc], r1, r2⟩
theorem segS_inv {l : List Nat} {a b : Nat} {g : Sg} (h : segS l (a, false) = (g, (b, false))) : l.drop a = segB g ++ l.drop b ∧ g.rng := by
  unfold segS at h
  simp only [Prod.mk.injEq] at h
  obtain ⟨q1, q2⟩ := h
  have hm : (numS l (spanS l (a, false)).2).2.2 = false := by rw [q2]
  have hm1 : (spanS l (a, false)).2.2 = false := (onS_more (s := (spanS l (a, false)).2) hm).1
  obtain ⟨x, hx⟩ : ∃ x, spanS l (a, false) = (x, ((spanS l (a, false)).2.1, false)) := ⟨_, Prod.ext rfl (st_eta hm1)⟩
  obtain ⟨b1, hb1⟩ : ∃ b1, b1 = (spanS l (a, false)).2.1 := ⟨_, rfl⟩
  rw [← hb1] at hx
  rw [hx] at q1 q2
  simp only at q1 q2
  obtain ⟨y, hy⟩ : ∃ y, numS l (b1, false) = (y, (b, false)) := ⟨_, Prod.ext rfl q2⟩
  rw [hy] at q1
  simp only at q1
  obtain ⟨h1, r1⟩ := spanS_inv hx
  obtain ⟨h2, r2⟩ := numS_inv hy
  subst q1
  exact ⟨by rw [h1, h2, segB, List.append_assoc], r1, r2⟩
theorem rowsN_inv : ∀ (n : Nat) {l : List Nat} {a b : Nat} {xs : List Sp}, rowsN l n (a, false) = (xs, (b, false)) → l.drop a = xs.flatMap cutsB ++ l.drop b ∧ xs.length = n ∧ ∀ s ∈ xs, s.rng
  | 0, l, a, b, xs, h => by
    simp only [rowsN, Prod.mk.injEq] at h
    obtain ⟨rfl, rfl, _⟩ := h
    simp
  | n + 1, l, a, b, xs, h => by
    rw [rowsN] at h
    split at h
    · rename_i hq
      simp only [Prod.mk.injEq] at h
      rw [h.2] at hq; cases hq
    · rename_i hq
      have hq' : (spanS l (a, false)).2.2 = false := by simpa using hq
      simp only [Prod.mk.injEq] at h
      obtain ⟨q1, q2⟩ := h
      obtain ⟨x, hx⟩ : ∃ x, spanS l (a, false) = (x, ((spanS l (a, false)).2.1, false)) := ⟨_, Prod.ext rfl (st_eta hq')⟩
      obtain ⟨b1, hb1⟩ : ∃ b1, b1 = (spanS l (a, false)).2.1 := ⟨_, rfl⟩
      rw [← hb1] at hx
      rw [hx] at q1 q2
      simp only at q1 q2
      obtain ⟨ys, hy⟩ : ∃ y, rowsN l n (b1, false) = (y, (b, false)) := ⟨_, Prod.ext rfl q2⟩
      rw [hy] at q1
      simp only at q1
      obtain ⟨h1, r1⟩ := spanS_inv hx
      obtain ⟨h2, h3, h4⟩ := rowsN_inv n hy
      subst q1
      refine ⟨by rw [h1, h2]; simp, by simp [h3], fun s hs => ?_⟩
      rcases List.mem_cons.1 hs with rfl | hs
      · exact r1
      · exact h4 s hs
theorem rowsNM_inv : ∀ (n : Nat) {l : List Nat} {a b : Nat} {xs : List Sg}, rowsNM l n (a, false) = (xs, (b, false)) → l.drop a = xs.flatMap segB ++ l.drop b ∧ xs.length = n ∧ ∀ s ∈ xs, s.rng
  | 0, l, a, b, xs, h => by
    simp only [rowsNM, Prod.mk.injEq] at h
    obtain ⟨rfl, rfl, _⟩ := h
    simp
  | n + 1, l, a, b, xs, h => by
    rw [rowsNM] at h
    split at h
    · rename_i hq
      simp only [Prod.mk.injEq] at h
      rw [h.2] at hq; cases hq
    · rename_i hq
      have hq' : (segS l (a, false)).2.2 = false := by simpa using hq
      simp only [Prod.mk.injEq] at h
      obtain ⟨q1, q2⟩ := h
      obtain ⟨x, hx⟩ : ∃ x, segS l (a, false) = (x, ((segS l (a, false)).2.1, false)) := ⟨_, Prod.ext rfl (st_eta hq')⟩
      obtain ⟨b1, hb1⟩ : ∃ b1, b1 = (segS l (a, false)).2.1 := ⟨_, rfl⟩
      rw [← hb1] at hx
      rw [hx] at q1 q2
      simp only at q1 q2
      obtain ⟨ys, hy⟩ : ∃ y, rowsNM l n (b1, false) = (y, (b, false)) := ⟨_, Prod.ext rfl q2⟩
      rw [hy] at q1
      simp only at q1
      obtain ⟨h1, r1⟩ := segS_inv hx
      obtain ⟨h2, h3, h4⟩ := rowsNM_inv n hy
      subst q1
      refine ⟨by rw [h1, h2]; simp, by simp [h3], fun s hs => ?_⟩
      rcases List.mem_cons.1 hs with rfl | hs
      · exact r1
      · exact h4 s hs
theorem drop_get {l : List Nat} {a b : Nat} (h : l[a]? = some b) : l.drop a = b :: l.drop (a + 1) := by
  obtain ⟨hl, rfl⟩ := List.getElem?_eq_some_iff.1 h
  exact List.drop_eq_getElem_cons hl
theorem readP_ok {l : List Nat} {m : Bool} (h : (readP l m).ok = true) : ¬ ((readNum l).2 = 0 ∨ (readNum l).1 ≠ (l.length : Int) - (readNum l).2) ∧ (headS l m (readNum l).2).2.2 = false ∧
    ¬ ((readNum (l.drop (headS l m (readNum l).2).2.1)).2 = 0 ∨ (readNum (l.drop (headS l m (readNum l).2).2.1)).1 < 0) ∧
    (rowsP l m (readNum (l.drop (headS l m (readNum l).2).2.1)).1.toNat ((headS l m (readNum l).2).2.1 + (readNum (l.drop (headS l m (readNum l).2).2.1)).2, false)).2.2 = false ∧
    ¬ (rowsP l m (readNum (l.drop (headS l m (readNum l).2).2.1)).1.toNat ((headS l m (readNum l).2).2.1 + (readNum (l.drop (headS l m (readNum l).2).2.1)).2, false)).2.1 < l.length ∧
    fineP m (headS l m (readNum l).2).1.1 (headS l m (readNum l).2).1.2.1 (headS l m (readNum l).2).1.2.2 (rowsP l m (readNum (l.drop (headS l m (readNum l).2).2.1)).1.toNat ((headS l m (readNum l).2).2.1 + (readNum (l.drop (headS l m (readNum l).2).2.1)).2, false)).1 = true ∧
    readP l m = ⟨(headS l m (readNum l).2).1.1, (headS l m (readNum l).2).1.2.1, (headS l m (readNum l).2).1.2.2, (rowsP l m (readNum (l.drop (headS l m (readNum l).2).2.1)).1.toNat ((headS l m (readNum l).2).2.1 + (readNum (l.drop (headS l m (readNum l).2).2.1)).2, false)).1, (rowsP l m (readNum (l.drop (headS l m (readNum l).2).2.1)).1.toNat ((headS l m (readNum l).2).2.1 + (readNum (l.drop (headS l m (readNum l).2).2.1)).2, false)).2.1, true⟩ := by
  unfold readP at h ⊢
  split at h
  · cases h
  · rename_i h1
    rw [if_neg h1]
    simp only at h ⊢
    split at h
    · cases h
    · rename_i h2
      rw [if_neg h2]
      split at h
      · cases h
      · rename_i h3
        rw [if_neg h3]
        split at h
        · cases h
        · rename_i h4
          rw [if_neg h4]
          split at h
          · cases h
          · rename_i h5
            rw [if_neg h5]
            split at h
            · rename_i h6
              rw [if_pos h6]
              exact ⟨h1, by simpa using h2, h3, by simpa using h4, h5, h6, rfl⟩
            · cases h
end Go.Proofs.YtmjaanhphkbkeaaGreat
end

section
namespace Go.Proofs.YtmjaanhphkbkeaaGreat
open Go.AM
set_option linter.unusedSimpArgs false
set_option linter.unusedVariables false
theorem set_back {l : List Nat} (h : (readP l false).ok = true) : setB (readP l false).st ((readP l false).gs.map (·.s)) = l ∧ (∀ s ∈ (readP l false).gs.map (·.s), s.rng) ∧ (readP l false).gs.length ≤ l.length ∧ l[(readNum l).2]? = some 1 := by
  obtain ⟨h1, h2, h3, h4, h5, h6, h7⟩ := readP_ok h
  rw [h7]
  simp only [not_or, ne_eq, Classical.not_not] at h1
  obtain ⟨hk0, hn1⟩ := h1
  obtain ⟨i1, i2, i3⟩ := readNum_inv (l := l) (n := (readNum l).1) (k := (readNum l).2) rfl hk0
  generalize hk : (readNum l).2 = k at *
  rw [headS_set] at *
  simp only at *
  obtain ⟨g, hg⟩ : ∃ g, signS l (signS l (k, false) [1]).2 [0, 1, 2] = g := ⟨_, rfl⟩
  rw [hg] at h2 h3 h4 h5 h6 ⊢
  have in2 := signS_in (l := l) (xs := [0, 1, 2]) (s := (signS l (k, false) [1]).2) (by rw [hg]; exact h2)
  have in1 := signS_in (l := l) (xs := [1]) (s := (k, false)) in2.1
  rw [hg] at in2
  obtain ⟨_, g1, g2, g3⟩ := in2
  obtain ⟨_, f1, f2, f3⟩ := in1
  rw [f3] at g1 g3
  simp only at f1 f3 g1 g3
  have f2' : (signS l (k, false) [1]).1 = 1 := by simpa using f2
  rw [f2'] at f1
  have hd1 := drop_get f1
  have hd2 := drop_get g1
  rw [g3] at h3 h4 h5 h6 ⊢
  obtain ⟨n2, k2, hr2⟩ : ∃ c n, readNum (l.drop (k + 1 + 1)) = (c, n) := ⟨_, _, rfl⟩
  rw [hr2] at h3 h4 h5 h6 ⊢
  simp only at h3 h4 h5 h6 ⊢
  obtain ⟨j1, j2, j3⟩ := readNum_inv hr2 (fun q => h3 (.inl q))
  rw [rowsP_set] at h4 h5 h6 ⊢
  simp only [map_s] at h4 h5 h6 ⊢
  obtain ⟨r, hr⟩ : ∃ r, rowsN l n2.toNat (k + 1 + 1 + k2, false) = r := ⟨_, rfl⟩
  rw [hr] at h4 h5 h6 ⊢
  have hr' : rowsN l n2.toNat (k + 1 + 1 + k2, false) = (r.1, (r.2.1, false)) := by rw [hr]; exact Prod.ext rfl (st_eta h4)
  obtain ⟨m1, m2, m3⟩ := rowsN_inv _ hr'
  have hend : l.drop r.2.1 = [] := List.drop_eq_nil_of_le (by omega)
  rw [hend, List.append_nil] at m1
  have hn2 : n2 = (r.1.length : Int) := by rw [m2]; have : ¬ n2 < 0 := fun q => h3 (.inr q); omega
  have hbody : l.drop k = bodyB (g.1 : Int) r.1 := by
    rw [hd1, hd2, j1, List.drop_drop, m1, bodyB, hn2]; simp
  have hbl : (bodyB (g.1 : Int) r.1).length = l.length - k := by rw [← hbody, List.length_drop]
  have hkl : k ≤ l.length := by
    have := readNum_len l; rw [hk] at this; exact this.1
  have hfin : right10 (g.1 : Int) = true ∧ fineS (g.1 : Int) r.1 = true := by
    simp only [fineP, Bool.false_eq_true, if_false, map_s, Bool.and_eq_true] at h6; exact h6
  refine ⟨?_, m3, ?_, f1⟩
  · rw [setB, if_pos hfin, hbl]
    have : ((l.length - k : Nat) : Int) = (readNum l).1 := by rw [hn1]; omega
    rw [this, ← hbody]; exact i1.symm
  · have hc : ∀ (xs : List Sp), xs.length ≤ (xs.flatMap cutsB).length := by
      intro xs
      induction xs with
      | nil => simp
      | cons s xs ih =>
        have := cutB_pos (s.a, s.b)
        simp only [List.flatMap_cons, List.length_append, List.length_cons, cutsB] at ih ⊢; omega
    have h8 := hc r.1
    have h9 := congrArg List.length m1
    rw [List.length_drop] at h9
    simp only [List.length_map]; omega
theorem map_back {l : List Nat} (h : (readP l true).ok = true) : mapB (readP l true).st (readP l true).ab (readP l true).z (readP l true).gs = l ∧ (∀ s ∈ (readP l true).gs, s.rng) ∧ rngI (readP l true).z ∧ (readP l true).gs.length ≤ l.length ∧ l[(readNum l).2]? = some 2 := by
  obtain ⟨h1, h2, h3, h4, h5, h6, h7⟩ := readP_ok h
  rw [h7]
  simp only [not_or, ne_eq, Classical.not_not] at h1
  obtain ⟨hk0, hn1⟩ := h1
  obtain ⟨i1, i2, i3⟩ := readNum_inv (l := l) (n := (readNum l).1) (k := (readNum l).2) rfl hk0
  generalize hk : (readNum l).2 = k at *
  obtain ⟨g, hg⟩ : ∃ g, signS l (signS l (k, false) [2]).2 [0, 2] = g := ⟨_, rfl⟩
  obtain ⟨a, ha⟩ : ∃ a, signS l g.2 [0, 1] = a := ⟨_, rfl⟩
  have hhd : headS l true k = if a.1 = 1 then (((g.1 : Int), !(numS l a.2).2.2, (numS l a.2).1), (numS l a.2).2) else (((g.1 : Int), false, 0), a.2) := by rw [headS_map, hg, ha]
  -- the head's bytes, whichever they are
  have hhead : ∃ st ab z s, headS l true k = ((st, ab, z), (s, false)) ∧ l.drop k = headB st ab z ++ l.drop s ∧ rngI z ∧ l[k]? = some 2 := by
    have hA : a.2.2 = false := by
      rw [hhd] at h2
      split at h2
      · exact (onS_more (s := a.2) h2).1
      · exact h2
    have in3 := signS_in (l := l) (xs := [0, 1]) (s := g.2) (by rw [ha]; exact hA)
    have in2 := signS_in (l := l) (xs := [0, 2]) (s := (signS l (k, false) [2]).2) (by rw [hg]; exact in3.1)
    have in1 := signS_in (l := l) (xs := [2]) (s := (k, false)) in2.1
    rw [ha] at in3
    rw [hg] at in2
    obtain ⟨_, a1, a2, a3⟩ := in3
    obtain ⟨_, g1, g2, g3⟩ := in2
    obtain ⟨_, f1, f2, f3⟩ := in1
    rw [f3] at g1 g3
    simp only at f1 f3 g1 g3
    rw [g3] at a1 a3
    have f2' : (signS l (k, false) [2]).1 = 2 := by simpa using f2
    rw [f2'] at f1
    have hd1 := drop_get f1
    have hd2 := drop_get g1
    have hd3 := drop_get a1
    have hA2 : a.2 = (k + 1 + 1 + 1, false) := by rw [st_eta hA, a3]
    by_cases hone : a.1 = 1
    · rw [if_pos hone] at hhd
      have hm : (numS l a.2).2.2 = false := by rw [hhd] at h2; exact h2
      obtain ⟨n, hn⟩ : ∃ n, numS l a.2 = n := ⟨_, rfl⟩
      rw [hn] at hhd hm
      have hn' : numS l (k + 1 + 1 + 1, false) = (n.1, (n.2.1, false)) := by rw [← hA2, hn]; exact Prod.ext rfl (st_eta hm)
      obtain ⟨j1, j2⟩ := numS_inv hn'
      refine ⟨g.1, true, n.1, n.2.1, ?_, ?_, j2, f1⟩
      · rw [hhd, hm]; exact Prod.ext rfl (st_eta hm)
      · rw [hd1, hd2, hd3, j1, hone, headB]; simp
    · rw [if_neg hone] at hhd
      have hz : a.1 = 0 := by simp at a2; omega
      refine ⟨g.1, false, 0, k + 1 + 1 + 1, ?_, ?_, by simp [rngI], f1⟩
      · rw [hhd, hA2]
      · rw [hd1, hd2, hd3, hz, headB]; simp
  obtain ⟨st, ab, z, s, e1, e2, e3, e4⟩ := hhead
  rw [e1] at h3 h4 h5 h6 ⊢
  simp only at h3 h4 h5 h6 ⊢
  obtain ⟨n2, k2, hr2⟩ : ∃ c n, readNum (l.drop s) = (c, n) := ⟨_, _, rfl⟩
  rw [hr2] at h3 h4 h5 h6 ⊢
  simp only at h3 h4 h5 h6 ⊢
  obtain ⟨j1, j2, j3⟩ := readNum_inv hr2 (fun q => h3 (.inl q))
  rw [rowsP_map] at h4 h5 h6 ⊢
  obtain ⟨r, hr⟩ : ∃ r, rowsNM l n2.toNat (s + k2, false) = r := ⟨_, rfl⟩
  rw [hr] at h4 h5 h6 ⊢
  have hr' : rowsNM l n2.toNat (s + k2, false) = (r.1, (r.2.1, false)) := by rw [hr]; exact Prod.ext rfl (st_eta h4)
  obtain ⟨m1, m2, m3⟩ := rowsNM_inv _ hr'
  have hend : l.drop r.2.1 = [] := List.drop_eq_nil_of_le (by omega)
  rw [hend, List.append_nil] at m1
  have hn2 : n2 = (r.1.length : Int) := by rw [m2]; have : ¬ n2 < 0 := fun q => h3 (.inr q); omega
  have hbody : l.drop k = bodyM st ab z r.1 := by
    rw [e2, j1, List.drop_drop, m1, bodyM, hn2]; simp
  have hbl : (bodyM st ab z r.1).length = l.length - k := by rw [← hbody, List.length_drop]
  have hkl : k ≤ l.length := by
    have := readNum_len l; rw [hk] at this; exact this.1
  have hfin : rightR st ab z = true ∧ fineM st ab z r.1 = true := by
    simp only [fineP, if_true, Bool.and_eq_true] at h6; exact h6
  refine ⟨?_, m3, e3, ?_, e4⟩
  · rw [mapB, if_pos hfin, hbl]
    have : ((l.length - k : Nat) : Int) = (readNum l).1 := by rw [hn1]; omega
    rw [this, ← hbody]; exact i1.symm
  · have hc : ∀ (xs : List Sg), xs.length ≤ (xs.flatMap segB).length := by
      intro xs
      induction xs with
      | nil => simp
      | cons s xs ih =>
        have := numB_pos (zig s.v)
        simp only [List.flatMap_cons, List.length_append, List.length_cons, segB] at ih ⊢; omega
    have h8 := hc r.1
    have h9 := congrArg List.length m1
    rw [List.length_drop] at h9
    omega
theorem not_both {l : List Nat} (h1 : (readP l false).ok = true) : (readP l true).ok = false := by
  cases h2 : (readP l true).ok with
  | false => rfl
  | true =>
    have a := (set_back h1).2.2.2
    have b := (map_back h2).2.2.2.2
    rw [a] at b; cases b
end Go.Proofs.YtmjaanhphkbkeaaGreat
end
