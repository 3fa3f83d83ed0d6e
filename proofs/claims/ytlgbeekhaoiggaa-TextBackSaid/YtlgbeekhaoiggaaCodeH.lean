import Derived.Test.YtlgbeekhaoiggaaCodeG
set_option linter.all false
section
namespace Go.Proofs.Ytlgbeekhaoiggaa
open Go.AM
set_option maxHeartbeats 4000000
variable {f : Nat} {h : Heap}
def begA (first lo : Bool) (l : List UInt8) (i : Nat) : Nat := if first then i else sk lo l (i + 1)
def nxtA (nums first lo : Bool) (l : List UInt8) (i : Nat) : Nat := sk lo l (oneN nums lo l (begA first lo l i)).2.1
def rowE (nums lo : Bool) (l : List UInt8) (first : Bool) (i : Nat) : List (Sg × Nat) × Nat × Int :=
  if _h : i < l.length then
    if first = false ∧ isAt l i [59] = false then ([], i, 180) else
    if _hr : (oneN nums lo l (begA first lo l i)).2.2 ≠ 0 ∨ ¬ i < nxtA nums first lo l i then ([], (oneN nums lo l (begA first lo l i)).2.1, (oneN nums lo l (begA first lo l i)).2.2) else
    (((oneN nums lo l (begA first lo l i)).1, begA first lo l i) :: (rowE nums lo l false (nxtA nums first lo l i)).1, (rowE nums lo l false (nxtA nums first lo l i)).2)
  else ([], i, 0)
termination_by l.length - i
decreasing_by all_goals (simp only [ne_eq, not_or, Classical.not_not] at _hr; omega)
theorem skip_ge (l : List UInt8) (i : Nat) : i ≤ skip l i := by unfold skip; omega
theorem sk_ge (lo : Bool) (l : List UInt8) (i : Nat) : i ≤ sk lo l i := by unfold sk; split; exact skip_ge l i; omega
theorem oneN_ok (nums lo : Bool) {l : List UInt8} {i : Nat} (hi : i ≤ l.length) : (oneN nums lo l i).2.1 ≤ l.length ∧ ((oneN nums lo l i).2.2 = 0 → i < (oneN nums lo l i).2.1) := by
  obtain ⟨h1, h2, h3⟩ := readN_ok lo (l.drop i)
  rw [List.length_drop] at h1
  unfold oneN
  by_cases hA : (readN lo (l.drop i)).2.2 ≠ 0 ∨ nums = false
  · rw [if_pos hA]; exact ⟨by simp only; omega, fun q => by have := h3 q; simp only; omega⟩
  · rw [if_neg hA]
    have he : (readN lo (l.drop i)).2.2 = 0 := Classical.byContradiction fun q => hA (.inl q)
    have h4 := h3 he
    have hj : i + (readN lo (l.drop i)).2.1 ≤ l.length := by omega
    have g1 := sk_ge lo l (i + (readN lo (l.drop i)).2.1)
    have hj2 := sk_le (lo := lo) hj
    have hij : i ≤ i + (readN lo (l.drop i)).2.1 := Nat.le_add_right _ _
    generalize i + (readN lo (l.drop i)).2.1 = j at *
    generalize sk lo l j = j2 at *
    by_cases hB : isAt l j2 [61, 62] = false
    · rw [if_pos hB]; exact ⟨hj2, fun q => by simp at q⟩
    · rw [if_neg hB]
      have hj3 := isAt_len (by simpa using hB) (by simp)
      simp at hj3
      have hj4 := sk_le (lo := lo) (l := l) (i := j2 + 2) (by omega)
      have g2 := sk_ge lo l (j2 + 2)
      generalize sk lo l (j2 + 2) = j4 at *
      have hs := sat_len (l := l.drop j4)
      rw [List.length_drop] at hs
      by_cases hz : (satRead (l.drop j4)).2 = 0
      · rw [if_pos hz]; exact ⟨hj4, fun q => by simp at q⟩
      · rw [if_neg hz]; exact ⟨by simp only; omega, fun _ => by simp only; omega⟩
theorem begA_ok (first lo : Bool) {l : List UInt8} {i : Nat} (hi : i < l.length) : begA first lo l i ≤ l.length ∧ i ≤ begA first lo l i := by
  unfold begA; split
  · exact ⟨by omega, Nat.le_refl _⟩
  · have := sk_ge lo l (i + 1); exact ⟨sk_le (by omega), by omega⟩
theorem rowE_end {nums lo first : Bool} {l : List UInt8} {i : Nat} (hi : ¬ i < l.length) : rowE nums lo l first i = ([], i, 0) := by rw [rowE, dif_neg hi]
theorem rowE_semi {nums lo : Bool} {l : List UInt8} {i : Nat} (hi : i < l.length) (hs : isAt l i [59] = false) : rowE nums lo l false i = ([], i, 180) := by rw [rowE, dif_pos hi, if_pos ⟨rfl, hs⟩]
theorem rowE_bad {nums lo first : Bool} {l : List UInt8} {i : Nat} (hi : i < l.length) (hs : first = true ∨ isAt l i [59] = true) (he : (oneN nums lo l (begA first lo l i)).2.2 ≠ 0) :
    rowE nums lo l first i = ([], (oneN nums lo l (begA first lo l i)).2.1, (oneN nums lo l (begA first lo l i)).2.2) := by
  rw [rowE, dif_pos hi, if_neg (by rintro ⟨q1, q2⟩; rcases hs with q | q; rw [q] at q1; cases q1; rw [q] at q2; cases q2), dif_pos (.inl he)]
theorem rowE_go {nums lo first : Bool} {l : List UInt8} {i : Nat} (hi : i < l.length) (hs : first = true ∨ isAt l i [59] = true) (he : (oneN nums lo l (begA first lo l i)).2.2 = 0) :
    i < nxtA nums first lo l i ∧ nxtA nums first lo l i ≤ l.length ∧ rowE nums lo l first i = (((oneN nums lo l (begA first lo l i)).1, begA first lo l i) :: (rowE nums lo l false (nxtA nums first lo l i)).1, (rowE nums lo l false (nxtA nums first lo l i)).2) := by
  obtain ⟨b1, b2⟩ := begA_ok first lo hi
  obtain ⟨o1, o2⟩ := oneN_ok nums lo b1
  have g := sk_ge lo l (oneN nums lo l (begA first lo l i)).2.1
  have hlt : i < nxtA nums first lo l i := by unfold nxtA; have := o2 he; omega
  refine ⟨hlt, sk_le o1, ?_⟩
  rw [rowE, dif_pos hi, if_neg (by rintro ⟨q1, q2⟩; rcases hs with q | q; rw [q] at q1; cases q1; rw [q] at q2; cases q2), dif_neg (by rintro (q | q); exact q he; exact q hlt)]
def fb : Option Sg → List (Sg × Nat) → Option Nat
  | _, [] => none
  | none, x :: r => fb (some x.1) r
  | some p, x :: r => if lessC (x.1.s.a, x.1.s.b) (p.s.c, p.s.d) = true then some x.2 else fb (some x.1) r
def lastO (p : Option Sg) (l : List (Sg × Nat)) : Option Sg := match l.getLast? with | some x => some x.1 | none => p
theorem fb_app : ∀ (l : List (Sg × Nat)) (p : Option Sg) (x : Sg × Nat), fb p (l ++ [x]) = match fb p l with
    | some b => some b
    | none => match lastO p l with
      | some q => if lessC (x.1.s.a, x.1.s.b) (q.s.c, q.s.d) = true then some x.2 else none
      | none => none
  | [], none, x => rfl
  | [], some p, x => by simp [fb, lastO]
  | y :: l, none, x => by
    have := fb_app l (some y.1) x
    simp only [List.cons_append, fb, this, lastO, List.getLast?_cons]
    cases l.getLast? <;> simp
  | y :: l, some p, x => by
    have := fb_app l (some y.1) x
    simp only [List.cons_append, fb]
    split
    · rfl
    · rw [this]; simp only [lastO, List.getLast?_cons]; cases l.getLast? <;> simp
def rowR (nums lo : Bool) (l : List UInt8) : List Sg × Nat × Int :=
  if l.length > 65536 then ([], 0, 180) else
  if (rowE nums lo l true (sk lo l 0)).2.2 ≠ 0 then ([], (rowE nums lo l true (sk lo l 0)).2) else
  match (if lo then none else fb none (rowE nums lo l true (sk lo l 0)).1) with
  | some b => ([], b, 180)
  | none => ((rowE nums lo l true (sk lo l 0)).1.map (·.1), l.length, 0)
end Go.Proofs.Ytlgbeekhaoiggaa
end

section
namespace Go.Proofs.Ytlgbeekhaoiggaa
open Go.AM
set_option maxHeartbeats 4000000
variable {f : Nat} {h : Heap}
abbrev triR (w : Value) (p : Nat) (e : Int) : Value := .tuple #[w, .int .i64 p, .int .i64 e]
end Go.Proofs.Ytlgbeekhaoiggaa
end

section
namespace Go.Proofs.Ytlgbeekhaoiggaa
open Go.AM
set_option maxHeartbeats 4000000
variable {f : Nat} {h : Heap}
theorem skip_idem (l : List UInt8) (i : Nat) : skip l (skip l i) = skip l i := by
  have key : ∀ n i, l.length - i = n → skip l (skip l i) = skip l i := by
    intro n
    induction n with
    | zero => intro i hn; rw [skip_end l i (by omega), skip_end l i (by omega)]
    | succ n ih =>
      intro i hn
      rw [skip_step l i (by omega)]
      split
      · exact ih (i + 1) (by omega)
      · rename_i h32; rw [skip_step l i (by omega), if_neg h32]
  exact key _ i rfl
theorem sk_idem (lo : Bool) (l : List UInt8) (i : Nat) : sk lo l (sk lo l i) = sk lo l i := by
  unfold sk; split
  · exact skip_idem l i
  · rfl
theorem spC_one (xs : List Sg) : (elems (fun x : Sg => spC x.s) xs).all Go.AM.one = true := all_one_ints (elems_ints (fun x => spC_ints x.s) xs)
theorem sgC_one (xs : List Sg) : (elems sgC xs).all Go.AM.one = true := all_one_ints (elems_ints sgC_ints xs)
theorem oneS_R {p : Nat} {l : List UInt8} {lo : Bool} {i : Nat} (hp : h[p]? = some (tdO l lo i)) (hf : f ≤ p) (hfs : f ≤ h.size) (hl : l.length ≤ 900000) (hi : i ≤ l.length) :
    callR X ⟨f, []⟩ 78 [ptr p] h fun v h' => v = .tuple #[spV (oneN false lo l i).1.s, .int .i64 (oneN false lo l i).2.2] ∧ h'[p]? = some (tdO l lo (oneN false lo l i).2.1) ∧ KeepB h h' (some p) := by
  have e : oneN false lo l i = (⟨(readN lo (l.drop i)).1, 0⟩, i + (readN lo (l.drop i)).2.1, (readN lo (l.drop i)).2.2) := by unfold oneN; rw [if_pos (.inr rfl)]
  rw [e]
  exact tspan_R hp hf hfs hl hi
theorem ofS_runs {x : Sg} : Runs X ⟨f, []⟩ 79 [spV x.s] h (spV x.s) h := by
  refine Runs_of rfl f79_is ?_
  simp only [f79r0, f79r1, f79b]
  repeat' (first
 | refine za ?_ | refine zb ?_ | refine zc ?_ | refine zd ?_ | refine ze ?_ | refine zf ?_ | refine zg ?_ | refine zh ?_ | (refine zi ?_; try refine RgD_plain rfl ?_) | refine w_drawn rfl ?_ | refine zj ?_ | refine zl ?_
 | ((first | apply zs | (apply zt; (focus rfl)) | (apply zu; (focus rfl)) | (apply zv; (focus rfl)) | apply zx | apply zy | apply zB | apply zC | apply zD | apply zE | apply zF); (focus ((conv => lhs; simp (disch := omega) [-env0_get, bound, List.getElem?_cons_zero, List.getElem?_cons_succ, odt, odf, oip, oin, obt, obf, ont, onf, wrapI, owu, ow8, ow32, otd, oe0, oe1, oe2, oe3, oe4, oe5, oe6, otn, ot1, ot2, ot4]); first | done | rfl)); first | apply zk | (apply zn; (focus rfl); try (focus (first | rfl | (simp; done)))) | (apply zo; (focus rfl)) | apply gv_u | apply gv_tt | apply gv_ff | apply gv_ft | apply gv_tf | (apply gv_split <;> intro hc <;> try simp only [decide_eq_true_eq, decide_eq_false_iff_not, beq_iff_eq, beq_eq_false_iff_ne, bne_iff_ne, bne_eq_false_iff_eq, Bool.not_true, Bool.not_false, ne_eq] at hc))
 | (simp (disch := omega) only [thenQ_normal, thenQ_exit, thenQ_ret, blockQ_normal, blockQ_ret, blockQ_exit_same, blockQ_exit_ne]))
theorem ofG_runs {x : Sg} : Runs X ⟨f, []⟩ 86 [sgV x] h (spV x.s) h := by
  refine Runs_of rfl f86_is ?_
  simp only [f86r0, f86r1, f86b]
  repeat' (first
 | refine za ?_ | refine zb ?_ | refine zc ?_ | refine zd ?_ | refine ze ?_ | refine zf ?_ | refine zg ?_ | refine zh ?_ | (refine zi ?_; try refine RgD_plain rfl ?_) | refine w_drawn rfl ?_ | refine zj ?_ | refine zl ?_
 | ((first | apply zs | (apply zt; (focus rfl)) | (apply zu; (focus rfl)) | (apply zv; (focus rfl)) | apply zx | apply zy | apply zB | apply zC | apply zD | apply zE | apply zF); (focus ((conv => lhs; simp (disch := omega) [-env0_get, bound, List.getElem?_cons_zero, List.getElem?_cons_succ, odt, odf, oip, oin, obt, obf, ont, onf, wrapI, owu, ow8, ow32, otd, oe0, oe1, oe2, oe3, oe4, oe5, oe6, otn, ot1, ot2, ot4]); first | done | rfl)); first | apply zk | (apply zn; (focus rfl); try (focus (first | rfl | (simp; done)))) | (apply zo; (focus rfl)) | apply gv_u | apply gv_tt | apply gv_ff | apply gv_ft | apply gv_tf | (apply gv_split <;> intro hc <;> try simp only [decide_eq_true_eq, decide_eq_false_iff_not, beq_iff_eq, beq_eq_false_iff_ne, bne_iff_ne, bne_eq_false_iff_eq, Bool.not_true, Bool.not_false, ne_eq] at hc))
 | (simp (disch := omega) only [thenQ_normal, thenQ_exit, thenQ_ret, blockQ_normal, blockQ_ret, blockQ_exit_same, blockQ_exit_ne]))
structure AS (f p : Nat) (h0 h : Heap) (l : List UInt8) (lo : Bool) (i : Nat) (T k : Nat) (w : Value) (c : List Value) (wb : Value) (bs : List Nat) : Prop where
  gr : h[p]? = some (tdO l lo i)
  gw : Buf f h T k w c
  gb : Buf f h 3 1 wb (nvs bs)
  kp : KeepB h0 h (some p)
  wp : ∀ y, blk w = some y → h0.size ≤ y ∧ blk wb ≠ some y
  bp : ∀ y, blk wb = some y → h0.size ≤ y
theorem AS.keep {f p : Nat} {h0 h h' : Heap} {l : List UInt8} {lo : Bool} {i i' : Nat} {T k : Nat} {w : Value} {c : List Value} {wb : Value} {bs : List Nat} (A : AS f p h0 h l lo i T k w c wb bs) (hp : p < h0.size) (hr : h'[p]? = some (tdO l lo i')) (kk : KeepB h h' (some p)) : AS f p h0 h' l lo i' T k w c wb bs :=
  ⟨hr, A.gw.keepB kk (.inr (fun q => by have := (A.wp p q).1; omega)), A.gb.keepB kk (.inr (fun q => by have := A.bp p q; omega)), A.kp.trans kk, A.wp, A.bp⟩
theorem AS.push {f p : Nat} {h0 h : Heap} {l : List UInt8} {lo : Bool} {i : Nat} {T k : Nat} {w : Value} {c : List Value} {wb : Value} {bs : List Nat} (A : AS f p h0 h l lo i T k w c wb bs) (hp : p < h0.size) (x : AObj) : AS f p h0 (h.push x) l lo i T k w c wb bs :=
  A.keep hp (by have := lt_of A.gr; rw [Array.getElem?_push, if_neg (by omega)]; exact A.gr) ((KeepB.refl h _).push x)
theorem AS.addB {f p : Nat} {h0 h : Heap} {l : List UInt8} {lo : Bool} {i : Nat} {T k : Nat} {w : Value} {c : List Value} {wb : Value} {bs : List Nat} {n : Nat} {x : Value} (A : AS f p h0 h l lo i T k w c wb bs) (hp : p < h0.size) (hfs : f ≤ h0.size) (hbl : bs.length ≤ 1000000) (hx : srcCells h 1 x = some (1, [.int .i64 n])) :
    ∃ wb' h', aAppend ⟨f, []⟩ h 3 1 8 wb x = some (wb', h') ∧ AS f p h0 h' l lo i T k w c wb' (bs ++ [n]) ∧ h.size < h'.size := by
  have hsz := A.kp.1
  obtain ⟨v', h', q1, q2, q3, q4⟩ := append_buf (f := f) (by_ := 8) (n := (nvs bs).length) (m := 1) (x := x) (l2 := [.int .i64 n]) (by omega : 0 < 1) (by omega) A.gb hx (by omega) (by omega) (nvs_one _) rfl (by simp [nvs]; omega) (by simp [nvs]; omega) rfl
  have hlt := lt_of A.gr
  have hpb : blk wb ≠ some p := fun q => by have := A.bp p q; omega
  refine ⟨v', h', q1, ⟨by rw [q3.2 p hlt hpb]; exact A.gr, ?_, by rw [nvs_app]; exact q2, ?_, fun y hy => ⟨(A.wp y hy).1, ?_⟩, fun y hy => ?_⟩, ?_⟩
  · refine A.gw.keepB q3 ?_
    cases hb : blk wb with
    | none => exact .inl rfl
    | some y => exact .inr fun q => (A.wp y q).2 hb
  · refine ⟨by have := q3.1; omega, fun y hy hne => ?_⟩
    rw [q3.2 y (by omega) (fun q => by have := A.bp y q; omega)]; exact A.kp.2 y hy hne
  · rw [q4]; intro q
    have : y < h.size := by rcases A.gw with ⟨rfl, _⟩ | ⟨b, m, rfl, _, hc, _⟩; simp [blk] at hy; simp [blk] at hy; subst hy; exact lt_of hc
    simp at q; omega
  · rw [q4] at hy; simp at hy; omega
  · have := q3.1
    rcases q2 with ⟨rfl, _⟩ | ⟨b, m, rfl, _, hc, _⟩
    · simp [blk] at q4
    · simp [blk] at q4; have := lt_of hc; omega
theorem AS.addW {f p : Nat} {h0 h : Heap} {l : List UInt8} {lo : Bool} {i : Nat} {T k by_ n : Nat} {w : Value} {c : List Value} {wb : Value} {bs : List Nat} {x : Value} {l2 : List Value} (A : AS f p h0 h l lo i T k w c wb bs) (hp : p < h0.size) (hfs : f ≤ h0.size) (hk : 0 < k) (hn : n * k = c.length) (hnl : n ≤ 1000000) (hby : by_ ≤ 1000) (hc1 : c.all Go.AM.one = true) (hl1 : l2.all Go.AM.one = true) (hl2 : l2.length = 1 * k) (hx : srcCells h k x = some (1, l2)) :
    ∃ w' h', aAppend ⟨f, []⟩ h T k by_ w x = some (w', h') ∧ AS f p h0 h' l lo i T k w' (c ++ l2) wb bs ∧ h.size < h'.size := by
  have hsz := A.kp.1
  obtain ⟨v', h', q1, q2, q3, q4⟩ := append_buf (f := f) (by_ := by_) (n := n) (m := 1) (x := x) (l2 := l2) hk (by omega) A.gw hx (by omega) hn hc1 hl1 (by have : (n + 1) * by_ ≤ 1000001 * 1000 := Nat.mul_le_mul (by omega) hby; omega) (by omega) hl2
  have hlt := lt_of A.gr
  have hpb : blk w ≠ some p := fun q => by have := (A.wp p q).1; omega
  have hbw : blk w = none ∨ blk wb ≠ blk w := by
    cases hb : blk w with
    | none => exact .inl rfl
    | some y => exact .inr (A.wp y hb).2
  refine ⟨v', h', q1, ⟨by rw [q3.2 p hlt hpb]; exact A.gr, q2, A.gb.keepB q3 hbw, ?_, fun y hy => ?_, A.bp⟩, ?_⟩
  · refine ⟨by have := q3.1; omega, fun y hy hne => ?_⟩
    rw [q3.2 y (by omega) (fun q => by have := (A.wp y q).1; omega)]; exact A.kp.2 y hy hne
  · rw [q4] at hy; simp at hy
    refine ⟨by omega, fun q => ?_⟩
    have : y < h.size := by rcases A.gb with ⟨rfl, _⟩ | ⟨b, m, rfl, _, hc, _⟩; simp [blk] at q; simp [blk] at q; subst q; exact lt_of hc
    omega
  · rcases q2 with ⟨rfl, _⟩ | ⟨b, m, rfl, _, hc, _⟩
    · simp [blk] at q4
    · simp [blk] at q4; have := lt_of hc; omega
theorem fb_pre : ∀ (l r : List (Sg × Nat)) (p : Option Sg) (b : Nat), fb p l = some b → fb p (l ++ r) = some b
  | [], r, p, b, hb => by cases p <;> simp [fb] at hb
  | x :: l, r, none, b, hb => by simp only [List.cons_append, fb] at hb ⊢; exact fb_pre l r _ b hb
  | x :: l, r, some p, b, hb => by
    simp only [List.cons_append, fb] at hb ⊢
    split at hb
    · rename_i q; rw [if_pos q]; exact hb
    · rename_i q; rw [if_neg q]; exact fb_pre l r _ b hb
theorem fb_next {l : List (Sg × Nat)} {j : Nat} {x q : Sg × Nat} (h0 : 0 < j) (hx : l[j]? = some x) (hq : l[j - 1]? = some q) (hn : fb none (l.take j) = none) :
    fb none (l.take (j + 1)) = if lessC (x.1.s.a, x.1.s.b) (q.1.s.c, q.1.s.d) = true then some x.2 else none := by
  have hjl := (List.getElem?_eq_some_iff.1 hx).1
  rw [List.take_succ, hx, Option.toList_some, fb_app, hn]
  have hl : lastO none (l.take j) = some q.1 := by
    unfold lastO
    rw [List.getLast?_eq_getElem?, List.length_take, Nat.min_eq_left (by omega), List.getElem?_take, if_pos (by omega), hq]
  rw [hl]
theorem fb_one (l : List (Sg × Nat)) : fb none (l.take 1) = none := by cases l <;> simp [fb]
end Go.Proofs.Ytlgbeekhaoiggaa
end
