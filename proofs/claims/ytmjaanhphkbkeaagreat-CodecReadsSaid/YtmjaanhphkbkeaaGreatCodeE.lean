import Derived.Test.YtmjaanhphkbkeaaGreatCodeD
set_option linter.all false
section
namespace Go.Proofs.YtmjaanhphkbkeaaGreat
open Go.AM
set_option linter.unusedSimpArgs false
set_option linter.unusedVariables false
variable {f : Nat} {h : Heap}
/-! ### the reader -/
/-- where it is, and whether a part was amiss -/
abbrev St := Nat × Bool
def onS (s : St) (long : Nat) : St := if s.2 || long == 0 then (s.1, true) else (s.1 + long, false)
def numS (l : List Nat) (s : St) : Int × St := ((readNum (l.drop s.1)).1, onS s (readNum (l.drop s.1)).2)
def cutS (l : List Nat) (s : St) : (Int × Int) × St := ((readCut (l.drop s.1)).1, onS s (readCut (l.drop s.1)).2)
def spanS (l : List Nat) (s : St) : Sp × St := (⟨(cutS l s).1.1, (cutS l s).1.2, (cutS l (cutS l s).2).1.1, (cutS l (cutS l s).2).1.2⟩, (cutS l (cutS l s).2).2)
def signS (l : List Nat) (s : St) (xs : List Nat) : Nat × St := match l[s.1]? with
  | some b => if b ∈ xs then (b, onS s 1) else (0, onS s 0)
  | none => (0, onS s 0)
def lengthS (l : List Nat) (s : St) : St := onS s (if (readNum l).1 = (l.length : Int) - (readNum l).2 then (readNum l).2 else 0)

structure Rdr (f : Nat) (h : Heap) (p : Nat) (v : Value) (l : List Nat) (s : St) : Prop where
  fp : f ≤ p
  cell : h[p]? = some (.cells [v, .int .i64 s.1, .bool s.2] 68)
  row : BRow h v l
  ne : blk v ≠ some p
  at_ : s.1 ≤ l.length
  len : l.length ≤ 100000
  by_ : ∀ b ∈ l, b < 256
theorem Rdr.lt {p : Nat} {v : Value} {l : List Nat} {s : St} (r : Rdr f h p v l s) : p < h.size := (Array.getElem?_eq_some_iff.1 r.cell).1
theorem Rdr.cells {p : Nat} {v : Value} {l : List Nat} {s : St} (r : Rdr f h p v l s) : h.cellsAt p = some [v, .int .i64 s.1, .bool s.2] := by unfold Heap.cellsAt; rw [r.cell]
theorem Rdr.keep {h' : Heap} {p : Nat} {v : Value} {l : List Nat} {s : St} (r : Rdr f h p v l s) (k : KeepB h h' none) : Rdr f h' p v l s :=
  ⟨r.fp, by rw [k.2 p r.lt (by simp)]; exact r.cell, r.row.keepB k (.inl rfl), r.ne, r.at_, r.len, r.by_⟩
theorem Rdr.push {p : Nat} {v : Value} {l : List Nat} {s : St} (r : Rdr f h p v l s) (x : AObj) : Rdr f (h.push x) p v l s := r.keep ((KeepB.refl _ _).push x)
theorem Rdr.set {p : Nat} {v : Value} {l : List Nat} {s s' : St} (r : Rdr f h p v l s) (ha : s'.1 ≤ l.length) : Rdr f (h.setIfInBounds p (.cells [v, .int .i64 s'.1, .bool s'.2] 68)) p v l s' :=
  ⟨r.fp, by rw [Array.getElem?_setIfInBounds, if_pos rfl, if_pos r.lt], r.row.keepB ((KeepB.refl h (some p)).set _ (.inr rfl)) (.inr r.ne), r.ne, ha, r.len, r.by_⟩
theorem Rdr.setO {p : Nat} {v : Value} {l : List Nat} {s : St} {b : Nat} {x : AObj} (r : Rdr f h p v l s) (hb : b ≠ p) (hv : blk v ≠ some b) : Rdr f (h.setIfInBounds b x) p v l s :=
  ⟨r.fp, by rw [Array.getElem?_setIfInBounds, if_neg hb]; exact r.cell, r.row.keepB ((KeepB.refl h (some b)).set _ (.inr rfl)) (.inr hv), r.ne, r.at_, r.len, r.by_⟩
theorem KeepB_none_some {h0 h1 : Heap} {x : Option Nat} (k : KeepB h0 h1 none) : KeepB h0 h1 x := ⟨k.1, fun y hy _ => k.2 y hy (by simp)⟩
theorem set_set {h : Heap} {p : Nat} {x y : AObj} : (h.setIfInBounds p x).setIfInBounds p y = h.setIfInBounds p y := by
  apply Array.ext_getElem?
  intro i
  simp only [Array.getElem?_setIfInBounds, Array.size_setIfInBounds]
  split <;> rfl

theorem on_runs {p : Nat} {v : Value} {l : List Nat} {s : St} {long : Nat} (r : Rdr f h p v l s) (hl : s.1 + long ≤ l.length) :
    callR X ⟨f, []⟩ 54 [.pointer (some ⟨p, 0, none⟩), .int .i64 long] h fun _ h' => Rdr f h' p v l (onS s long) ∧ KeepB h h' (some p) := by
  have hlen := r.len
  have hc := r.cells
  have hlt := r.lt
  have hfp := r.fp
  have hw := @wr_def h p
  have hset : ∀ s' : St, s'.1 ≤ l.length → Rdr f (h.setIfInBounds p (.cells [v, .int .i64 s'.1, .bool s'.2] 68)) p v l s' := fun s' h' => r.set h'
  have hone : one v = true := by obtain ⟨a, c, e⟩ := r.row.form; rw [e]; rfl
  have hcell := r.cell
  have hk : ∀ x, KeepB h (h.setIfInBounds p x) (some p) := fun x => (KeepB.refl h (some p)).set _ (.inr rfl)
  obtain ⟨at_, am⟩ := s
  simp only at hc hl hset hcell
  have hwr : ∀ off vs, wr ⟨f, []⟩ h p off vs = if f ≤ p ∧ vs.all one = true ∧ off + vs.length ≤ 3 then some (h.setIfInBounds p (.cells (putAt [v, .int .i64 at_, .bool am] off vs) 68)) else none := fun off vs => by rw [wr_def hcell]; rfl
  refine callR_of rfl f54_is ?_
  simp only [f54r0, f54r1, f54r2, f54b]
  cases am with
  | true =>
    repeat (first
 | refine za ?_ | refine zb ?_ | refine zc ?_ | refine zd ?_ | refine ze ?_ | refine zf ?_ | refine zg ?_ | refine zh ?_ | (refine zi ?_; try refine RgD_plain rfl ?_) | refine w_drawn rfl ?_ | refine zj ?_ | refine zl ?_
 | ((first | apply zs | (apply zt; (focus rfl)) | (apply zu; (focus rfl)) | (apply zv; (focus rfl)) | apply zx | apply zy | apply zB | apply zC | apply zD | apply zE | apply zF); (focus ((conv => lhs; simp [hc, hwr, hfp, hlt]); first | done | rfl)); first | apply zk | (apply zn; (focus rfl); try (focus (first | rfl | (simp [hc, hwr, hfp, hlt]; done)))) | (apply zo; (focus rfl)) | apply gv_u | apply gv_tt | apply gv_ff | apply gv_ft | apply gv_tf))
    have e : onS (at_, true) long = (at_, true) := by simp [onS]
    rw [e]
    exact ⟨hset (at_, true) r.at_, hk _⟩
  | false =>
    by_cases h0 : long = 0
    · have t0 : ((long : Int) == 0) = true := by simp [h0]
      repeat (first
 | refine za ?_ | refine zb ?_ | refine zc ?_ | refine zd ?_ | refine ze ?_ | refine zf ?_ | refine zg ?_ | refine zh ?_ | (refine zi ?_; try refine RgD_plain rfl ?_) | refine w_drawn rfl ?_ | refine zj ?_ | refine zl ?_
 | ((first | apply zs | (apply zt; (focus rfl)) | (apply zu; (focus rfl)) | (apply zv; (focus rfl)) | apply zx | apply zy | apply zB | apply zC | apply zD | apply zE | apply zF); (focus ((conv => lhs; simp [hc, hwr, hfp, hlt, t0]); first | done | rfl)); first | apply zk | (apply zn; (focus rfl); try (focus (first | rfl | (simp [hc, hwr, hfp, hlt, t0]; done)))) | (apply zo; (focus rfl)) | apply gv_u | apply gv_tt | apply gv_ff | apply gv_ft | apply gv_tf))
      have e : onS (at_, false) long = (at_, true) := by simp [onS, h0]
      rw [e]
      exact ⟨hset (at_, true) r.at_, hk _⟩
    · have t0 : ((long : Int) == 0) = false := by simp; omega
      have w1 : IntKind.i64.wrap ((at_ : Int) + long) = ((at_ + long : Nat) : Int) := by rw [wrapI (by omega)]; omega
      have hwr2 : ∀ c off vs, wr ⟨f, []⟩ (h.setIfInBounds p (.cells c 68)) p off vs = if f ≤ p ∧ vs.all one = true ∧ off + vs.length ≤ c.length then some (h.setIfInBounds p (.cells (putAt c off vs) 68)) else none := fun c off vs => by
        rw [wr_def (c := c) (e := 68) (by rw [Array.getElem?_setIfInBounds, if_pos rfl, if_pos hlt]), set_set]
      repeat (first
 | refine za ?_ | refine zb ?_ | refine zc ?_ | refine zd ?_ | refine ze ?_ | refine zf ?_ | refine zg ?_ | refine zh ?_ | (refine zi ?_; try refine RgD_plain rfl ?_) | refine w_drawn rfl ?_ | refine zj ?_ | refine zl ?_
 | ((first | apply zs | (apply zt; (focus rfl)) | (apply zu; (focus rfl)) | (apply zv; (focus rfl)) | apply zx | apply zy | apply zB | apply zC | apply zD | apply zE | apply zF); (focus ((conv => lhs; simp [hc, hwr, hwr2, hfp, hlt, t0, w1]); first | done | rfl)); first | apply zk | (apply zn; (focus rfl); try (focus (first | rfl | (simp [hc, hwr, hwr2, hfp, hlt, t0, w1]; done)))) | (apply zo; (focus rfl)) | apply gv_u | apply gv_tt | apply gv_ff | apply gv_ft | apply gv_tf))
      have e : onS (at_, false) long = (at_ + long, false) := by simp [onS, h0]
      rw [e]
      exact ⟨hset (at_ + long, false) hl, hk _⟩
theorem length_runs {p : Nat} {v : Value} {l : List Nat} {s : St} (r : Rdr f h p v l s) (h0 : s.1 = 0) :
    callR X ⟨f, []⟩ 29 [.pointer (some ⟨p, 0, none⟩)] h fun _ h' => Rdr f h' p v l (lengthS l s) ∧ KeepB h h' (some p) := by
  have hc := r.cells
  have hln := readNum_len l
  have hlen := r.len
  have hrg := readNum_rng l
  have hrow := r.row
  obtain ⟨a, c, rfl⟩ := r.row.form
  refine callR_of rfl f29_is ?_
  simp only [f29r0, f29r1, f29r2, f29r3, f29b]
  have w1 : IntKind.i64.wrap ((l.length : Int) - (readNum l).2) = (l.length : Int) - (readNum l).2 := wrapI (by omega)
  by_cases hz : (readNum l).2 = 0
  · have t0 : decide ((0 : Int) < (readNum l).2) = false := by simp; omega
    have t0' : decide (0 < (readNum l).2) = false := by simp; omega
    repeat (first
 | refine za ?_ | refine zb ?_ | refine zc ?_ | refine zd ?_ | refine ze ?_ | refine zf ?_ | refine zg ?_ | refine zh ?_ | (refine zi ?_; try refine RgD_plain rfl ?_) | refine w_drawn rfl ?_ | refine zj ?_ | refine zl ?_
 | ((first | apply zs | (apply zt; (focus rfl)) | (apply zu; (focus rfl)) | (apply zv; (focus rfl)) | apply zw | apply zx | apply zy | apply zB | apply zC | apply zD | apply zE | apply zF); (focus ((conv => lhs; simp [hc, t0, t0']); first | done | rfl)); first | apply zk | (apply zn; (focus rfl); try (focus (first | rfl | (simp [hc, t0, t0']; done)))) | (apply zo; (focus rfl)) | apply gv_u | apply gv_tt | apply gv_ff | apply gv_ft | apply gv_tf | exact (readNum_runs hrow r.len r.by_)))
    (apply zW; (focus ((conv => lhs; simp); first | done | rfl)); (focus exact on_runs (long := (readNum l).2) r (by omega))); intro v' h' q
    repeat (first
 | refine za ?_ | refine zb ?_ | refine zc ?_ | refine zd ?_ | refine ze ?_ | refine zf ?_ | refine zg ?_ | refine zh ?_ | (refine zi ?_; try refine RgD_plain rfl ?_) | refine w_drawn rfl ?_ | refine zj ?_ | refine zl ?_
 | ((first | apply zs | (apply zt; (focus rfl)) | (apply zu; (focus rfl)) | (apply zv; (focus rfl)) | apply zx | apply zy | apply zB | apply zC | apply zD | apply zE | apply zF); (focus ((conv => lhs; simp); first | done | rfl)); first | apply zk | (apply zn; (focus rfl); try (focus (first | rfl | (simp; done)))) | (apply zo; (focus rfl)) | apply gv_u | apply gv_tt | apply gv_ff | apply gv_ft | apply gv_tf))
    have e : lengthS l s = onS s (readNum l).2 := by simp [lengthS, hz]
    rw [e]; exact q
  · have t0 : decide ((0 : Int) < (readNum l).2) = true := by simp; omega
    have t0' : decide (0 < (readNum l).2) = true := by simp; omega
    by_cases heq : (readNum l).1 = (l.length : Int) - (readNum l).2
    · have t1 : ((readNum l).1 != (l.length : Int) - (readNum l).2) = false := by simp [heq]
      repeat (first
 | refine za ?_ | refine zb ?_ | refine zc ?_ | refine zd ?_ | refine ze ?_ | refine zf ?_ | refine zg ?_ | refine zh ?_ | (refine zi ?_; try refine RgD_plain rfl ?_) | refine w_drawn rfl ?_ | refine zj ?_ | refine zl ?_
 | ((first | apply zs | (apply zt; (focus rfl)) | (apply zu; (focus rfl)) | (apply zv; (focus rfl)) | apply zw | apply zx | apply zy | apply zB | apply zC | apply zD | apply zE | apply zF); (focus ((conv => lhs; simp [hc, t0, t0', w1, t1]); first | done | rfl)); first | apply zk | (apply zn; (focus rfl); try (focus (first | rfl | (simp [hc, t0, t0', w1, t1]; done)))) | (apply zo; (focus rfl)) | apply gv_u | apply gv_tt | apply gv_ff | apply gv_ft | apply gv_tf | exact (readNum_runs hrow r.len r.by_)))
      (apply zW; (focus ((conv => lhs; simp); first | done | rfl)); (focus exact on_runs (long := (readNum l).2) r (by omega))); intro v' h' q
      repeat (first
 | refine za ?_ | refine zb ?_ | refine zc ?_ | refine zd ?_ | refine ze ?_ | refine zf ?_ | refine zg ?_ | refine zh ?_ | (refine zi ?_; try refine RgD_plain rfl ?_) | refine w_drawn rfl ?_ | refine zj ?_ | refine zl ?_
 | ((first | apply zs | (apply zt; (focus rfl)) | (apply zu; (focus rfl)) | (apply zv; (focus rfl)) | apply zx | apply zy | apply zB | apply zC | apply zD | apply zE | apply zF); (focus ((conv => lhs; simp); first | done | rfl)); first | apply zk | (apply zn; (focus rfl); try (focus (first | rfl | (simp; done)))) | (apply zo; (focus rfl)) | apply gv_u | apply gv_tt | apply gv_ff | apply gv_ft | apply gv_tf))
      have e : lengthS l s = onS s (readNum l).2 := by rw [lengthS, if_pos heq]
      rw [e]; exact q
    · have t1 : ((readNum l).1 != (l.length : Int) - (readNum l).2) = true := by simp [heq]
      repeat (first
 | refine za ?_ | refine zb ?_ | refine zc ?_ | refine zd ?_ | refine ze ?_ | refine zf ?_ | refine zg ?_ | refine zh ?_ | (refine zi ?_; try refine RgD_plain rfl ?_) | refine w_drawn rfl ?_ | refine zj ?_ | refine zl ?_
 | ((first | apply zs | (apply zt; (focus rfl)) | (apply zu; (focus rfl)) | (apply zv; (focus rfl)) | apply zw | apply zx | apply zy | apply zB | apply zC | apply zD | apply zE | apply zF); (focus ((conv => lhs; simp [hc, t0, t0', w1, t1]); first | done | rfl)); first | apply zk | (apply zn; (focus rfl); try (focus (first | rfl | (simp [hc, t0, t0', w1, t1]; done)))) | (apply zo; (focus rfl)) | apply gv_u | apply gv_tt | apply gv_ff | apply gv_ft | apply gv_tf | exact (readNum_runs hrow r.len r.by_)))
      (apply zW; (focus ((conv => lhs; simp); first | done | rfl)); (focus exact on_runs (long := 0) r (by omega))); intro v' h' q
      repeat (first
 | refine za ?_ | refine zb ?_ | refine zc ?_ | refine zd ?_ | refine ze ?_ | refine zf ?_ | refine zg ?_ | refine zh ?_ | (refine zi ?_; try refine RgD_plain rfl ?_) | refine w_drawn rfl ?_ | refine zj ?_ | refine zl ?_
 | ((first | apply zs | (apply zt; (focus rfl)) | (apply zu; (focus rfl)) | (apply zv; (focus rfl)) | apply zx | apply zy | apply zB | apply zC | apply zD | apply zE | apply zF); (focus ((conv => lhs; simp); first | done | rfl)); first | apply zk | (apply zn; (focus rfl); try (focus (first | rfl | (simp; done)))) | (apply zo; (focus rfl)) | apply gv_u | apply gv_tt | apply gv_ff | apply gv_ft | apply gv_tf))
      have e : lengthS l s = onS s 0 := by rw [lengthS, if_neg heq]
      rw [e]; exact q
theorem sign_runs {p : Nat} {v w : Value} {l xs : List Nat} {s : St} (r : Rdr f h p v l s) (hx : BRow h w xs) (hxl : xs.length ≤ 1000) :
    callR X ⟨f, []⟩ 30 [.pointer (some ⟨p, 0, none⟩), w] h fun n h' => n = .int .i64 (signS l s xs).1 ∧ Rdr f h' p v l (signS l s xs).2 ∧ KeepB h h' (some p) := by
  have hc := r.cells
  have hlen := r.len
  have hat := r.at_
  have hrow := r.row
  obtain ⟨a, c, rfl⟩ := r.row.form
  refine callR_of rfl f30_is ?_
  simp only [f30r0, f30r1, f30r2, f30r3, f30r4, f30r5, f30r6, f30b]
  by_cases hlt : s.1 < l.length
  · obtain ⟨b, hb, _⟩ := elem_at hlt
    obtain ⟨bl, o, cs, rfl, hbl, hcs, hga⟩ := hrow.bytes (by omega)
    have hg := hga s.1 b hb
    have hb256 := r.by_ b (List.mem_of_getElem? hb)
    have hge : ¬ l.length ≤ s.1 := by omega
    by_cases hin : b ∈ xs
    · have t1 : decide (b ∈ xs) = true := by simp [hin]
      have w1 : IntKind.i64.wrap (b : Int) = b := wrapI (by omega)
      repeat (first
 | refine za ?_ | refine zb ?_ | refine zc ?_ | refine zd ?_ | refine ze ?_ | refine zf ?_ | refine zg ?_ | refine zh ?_ | (refine zi ?_; try refine RgD_plain rfl ?_) | refine w_drawn rfl ?_ | refine zj ?_ | refine zl ?_
 | ((first | apply zs | (apply zt; (focus rfl)) | (apply zu; (focus rfl)) | (apply zv; (focus rfl)) | apply zw | apply zx | apply zy | apply zB | apply zC | apply zD | apply zE | apply zF); (focus ((conv => lhs; simp [hc, hlt, hge, hcs, hg, t1]); first | done | rfl)); first | apply zk | (apply zn; (focus rfl); try (focus (first | rfl | (simp [hc, hlt, hge, hcs, hg, t1]; done)))) | (apply zo; (focus rfl)) | apply gv_u | apply gv_tt | apply gv_ff | apply gv_ft | apply gv_tf | exact (contains_runs hx (by omega))))
      (apply zW; (focus ((conv => lhs; simp); first | done | rfl)); (focus exact on_runs (long := 1) r (by omega))); intro v' h' q
      have e : signS l s xs = (b, onS s 1) := by simp [signS, hb, hin]
      rw [e]
      repeat (first
 | refine za ?_ | refine zb ?_ | refine zc ?_ | refine zd ?_ | refine ze ?_ | refine zf ?_ | refine zg ?_ | refine zh ?_ | (refine zi ?_; try refine RgD_plain rfl ?_) | refine w_drawn rfl ?_ | refine zj ?_ | refine zl ?_
 | ((first | apply zs | (apply zt; (focus rfl)) | (apply zu; (focus rfl)) | (apply zv; (focus rfl)) | apply zx | apply zy | apply zB | apply zC | apply zD | apply zE | apply zF); (focus ((conv => lhs; simp [w1]); first | done | rfl)); first | apply zk | (apply zn; (focus rfl); try (focus (first | rfl | (simp [w1]; done)))) | (apply zo; (focus rfl)) | apply gv_u | apply gv_tt | apply gv_ff | apply gv_ft | apply gv_tf))
      exact ⟨rfl, q⟩
    · have t1 : decide (b ∈ xs) = false := by simp [hin]
      repeat (first
 | refine za ?_ | refine zb ?_ | refine zc ?_ | refine zd ?_ | refine ze ?_ | refine zf ?_ | refine zg ?_ | refine zh ?_ | (refine zi ?_; try refine RgD_plain rfl ?_) | refine w_drawn rfl ?_ | refine zj ?_ | refine zl ?_
 | ((first | apply zs | (apply zt; (focus rfl)) | (apply zu; (focus rfl)) | (apply zv; (focus rfl)) | apply zw | apply zx | apply zy | apply zB | apply zC | apply zD | apply zE | apply zF); (focus ((conv => lhs; simp [hc, hlt, hge, hcs, hg, t1]); first | done | rfl)); first | apply zk | (apply zn; (focus rfl); try (focus (first | rfl | (simp [hc, hlt, hge, hcs, hg, t1]; done)))) | (apply zo; (focus rfl)) | apply gv_u | apply gv_tt | apply gv_ff | apply gv_ft | apply gv_tf | exact (contains_runs hx (by omega))))
      (apply zW; (focus ((conv => lhs; simp); first | done | rfl)); (focus exact on_runs (long := 0) r (by omega))); intro v' h' q
      have e : signS l s xs = (0, onS s 0) := by simp [signS, hb, hin]
      rw [e]
      repeat (first
 | refine za ?_ | refine zb ?_ | refine zc ?_ | refine zd ?_ | refine ze ?_ | refine zf ?_ | refine zg ?_ | refine zh ?_ | (refine zi ?_; try refine RgD_plain rfl ?_) | refine w_drawn rfl ?_ | refine zj ?_ | refine zl ?_
 | ((first | apply zs | (apply zt; (focus rfl)) | (apply zu; (focus rfl)) | (apply zv; (focus rfl)) | apply zx | apply zy | apply zB | apply zC | apply zD | apply zE | apply zF); (focus ((conv => lhs; simp); first | done | rfl)); first | apply zk | (apply zn; (focus rfl); try (focus (first | rfl | (simp; done)))) | (apply zo; (focus rfl)) | apply gv_u | apply gv_tt | apply gv_ff | apply gv_ft | apply gv_tf))
      exact ⟨rfl, q⟩
  · have hge : l.length ≤ s.1 := by omega
    repeat (first
 | refine za ?_ | refine zb ?_ | refine zc ?_ | refine zd ?_ | refine ze ?_ | refine zf ?_ | refine zg ?_ | refine zh ?_ | (refine zi ?_; try refine RgD_plain rfl ?_) | refine w_drawn rfl ?_ | refine zj ?_ | refine zl ?_
 | ((first | apply zs | (apply zt; (focus rfl)) | (apply zu; (focus rfl)) | (apply zv; (focus rfl)) | apply zx | apply zy | apply zB | apply zC | apply zD | apply zE | apply zF); (focus ((conv => lhs; simp [hc, hge]); first | done | rfl)); first | apply zk | (apply zn; (focus rfl); try (focus (first | rfl | (simp [hc, hge]; done)))) | (apply zo; (focus rfl)) | apply gv_u | apply gv_tt | apply gv_ff | apply gv_ft | apply gv_tf))
    (apply zW; (focus ((conv => lhs; simp); first | done | rfl)); (focus exact on_runs (long := 0) r (by omega))); intro v' h' q
    have e : signS l s xs = (0, onS s 0) := by
      have : l[s.1]? = none := List.getElem?_eq_none hge
      simp [signS, this]
    rw [e]
    repeat (first
 | refine za ?_ | refine zb ?_ | refine zc ?_ | refine zd ?_ | refine ze ?_ | refine zf ?_ | refine zg ?_ | refine zh ?_ | (refine zi ?_; try refine RgD_plain rfl ?_) | refine w_drawn rfl ?_ | refine zj ?_ | refine zl ?_
 | ((first | apply zs | (apply zt; (focus rfl)) | (apply zu; (focus rfl)) | (apply zv; (focus rfl)) | apply zx | apply zy | apply zB | apply zC | apply zD | apply zE | apply zF); (focus ((conv => lhs; simp); first | done | rfl)); first | apply zk | (apply zn; (focus rfl); try (focus (first | rfl | (simp; done)))) | (apply zo; (focus rfl)) | apply gv_u | apply gv_tt | apply gv_ff | apply gv_ft | apply gv_tf))
    exact ⟨rfl, q⟩
theorem cutR_runs {p : Nat} {v : Value} {l : List Nat} {s : St} (r : Rdr f h p v l s) :
    callR X ⟨f, []⟩ 56 [.pointer (some ⟨p, 0, none⟩)] h fun n h' => n = .agg #[.int .i64 (cutS l s).1.1, .int .i64 (cutS l s).1.2] ∧ Rdr f h' p v l (cutS l s).2 ∧ KeepB h h' (some p) := by
  have hc := r.cells
  have hlen := r.len
  have hat := r.at_
  have hlt := r.lt
  have hfp := r.fp
  have hrow := r.row
  obtain ⟨a, c, rfl⟩ := r.row.form
  refine callR_of rfl f56_is ?_
  simp only [f56r0, f56r1, f56r2, f56r3, f56b]
  obtain ⟨s1, s2⟩ := (hrow.push (.cells [.int .i64 0, .int .i64 0] 48)).from hat
  have hcl := readCut_len (l.drop s.1)
  rw [List.length_drop] at hcl
  have n1 : ¬ p = h.size := by omega
  have n2 : ¬ p = h.size + 1 := by omega
  have hfs : f ≤ h.size := by omega
  have hfs1 : f ≤ h.size + 1 := by omega
  repeat (first
 | refine za ?_ | refine zb ?_ | refine zc ?_ | refine zd ?_ | refine ze ?_ | refine zf ?_ | refine zg ?_ | refine zh ?_ | (refine zi ?_; try refine RgD_plain rfl ?_) | refine w_drawn rfl ?_ | refine zj ?_ | refine zl ?_
 | ((first | apply zs | (apply zt; (focus rfl)) | (apply zu; (focus rfl)) | (apply zv; (focus rfl)) | apply zw | apply zx | apply zy | apply zB | apply zC | apply zD | apply zE | apply zF); (focus ((conv => lhs; simp [hc, s1, n1, n2, hfs, hfs1]); first | done | rfl)); first | apply zk | (apply zn; (focus rfl); try (focus (first | rfl | (simp [hc, s1, n1, n2, hfs, hfs1]; done)))) | (apply zo; (focus rfl)) | apply gv_u | apply gv_tt | apply gv_ff | apply gv_ft | apply gv_tf | exact (readCut_runs ((s2.push _)) (by rw [List.length_drop]; omega) (fun x hx => r.by_ x (List.mem_of_mem_drop hx)))))
  (apply zW; (focus ((conv => lhs; simp); first | done | rfl)); (focus exact on_runs (long := (readCut (l.drop s.1)).2) ((r.push _).push _) (by omega))); intro v' h' q
  obtain ⟨q1, q2⟩ := q
  have hsz := q2.1
  simp at hsz
  have o1 : h'[h.size]? = some (.cells [.int .i64 0, .int .i64 0] 48) := by rw [q2.2 _ (by simp; omega) (by simp; omega), Array.getElem?_push, if_neg (by simp), Array.getElem?_push, if_pos rfl]
  have o2 : h'.cellsAt (h.size + 1) = some [.int .i64 (readCut (l.drop s.1)).1.1, .int .i64 (readCut (l.drop s.1)).1.2] := by rw [q2.cells (by simp) (by simp; omega)]; simp
  have hw1 : ∀ off vs, wr ⟨f, []⟩ h' h.size off vs = if f ≤ h.size ∧ vs.all one = true ∧ off + vs.length ≤ 2 then some (h'.setIfInBounds h.size (.cells (putAt [.int .i64 0, .int .i64 0] off vs) 48)) else none := fun off vs => by rw [wr_def o1]; rfl
  have hz : h.size < h'.size := by omega
  repeat (first
 | refine za ?_ | refine zb ?_ | refine zc ?_ | refine zd ?_ | refine ze ?_ | refine zf ?_ | refine zg ?_ | refine zh ?_ | (refine zi ?_; try refine RgD_plain rfl ?_) | refine w_drawn rfl ?_ | refine zj ?_ | refine zl ?_
 | ((first | apply zs | (apply zt; (focus rfl)) | (apply zu; (focus rfl)) | (apply zv; (focus rfl)) | apply zx | apply zy | apply zB | apply zC | apply zD | apply zE | apply zF); (focus ((conv => lhs; simp [o2, hw1, hfs, hz]); first | done | rfl)); first | apply zk | (apply zn; (focus rfl); try (focus (first | rfl | (simp [o2, hw1, hfs, hz]; done)))) | (apply zo; (focus rfl)) | apply gv_u | apply gv_tt | apply gv_ff | apply gv_ft | apply gv_tf))
  refine ⟨rfl, q1.setO (by omega) (fun q => by have := r.row.blt q; omega), ((((KeepB.refl h (some p)).push _).push _).trans q2).set _ (.inl (Nat.le_refl _))⟩
theorem spanR_runs {p : Nat} {v : Value} {l : List Nat} {s : St} (r : Rdr f h p v l s) :
    callR X ⟨f, []⟩ 34 [.pointer (some ⟨p, 0, none⟩)] h fun n h' => n = .agg #[.int .i64 (spanS l s).1.a, .int .i64 (spanS l s).1.b, .int .i64 (spanS l s).1.c, .int .i64 (spanS l s).1.d] ∧ Rdr f h' p v l (spanS l s).2 ∧ KeepB h h' (some p) := by
  have hlt := r.lt
  have hfp := r.fp
  refine callR_of rfl f34_is ?_
  simp only [f34r0, f34r1, f34r2, f34b]
  have hfs : f ≤ h.size := by omega
  repeat (first
 | refine za ?_ | refine zb ?_ | refine zc ?_ | refine zd ?_ | refine ze ?_ | refine zf ?_ | refine zg ?_ | refine zh ?_ | (refine zi ?_; try refine RgD_plain rfl ?_) | refine w_drawn rfl ?_ | refine zj ?_ | refine zl ?_
 | ((first | apply zs | (apply zt; (focus rfl)) | (apply zu; (focus rfl)) | (apply zv; (focus rfl)) | apply zx | apply zy | apply zB | apply zC | apply zD | apply zE | apply zF); (focus ((conv => lhs; simp); first | done | rfl)); first | apply zk | (apply zn; (focus rfl); try (focus (first | rfl | (simp; done)))) | (apply zo; (focus rfl)) | apply gv_u | apply gv_tt | apply gv_ff | apply gv_ft | apply gv_tf))
  (apply zW; (focus ((conv => lhs; simp); first | done | rfl)); (focus exact cutR_runs (r.push _))); intro v' h' q
  obtain ⟨q0, q1, q2⟩ := q
  subst q0
  have hsz := q2.1
  simp at hsz
  have hf' : f ≤ h'.size := by omega
  repeat (first
 | refine za ?_ | refine zb ?_ | refine zc ?_ | refine zd ?_ | refine ze ?_ | refine zf ?_ | refine zg ?_ | refine zh ?_ | (refine zi ?_; try refine RgD_plain rfl ?_) | refine w_drawn rfl ?_ | refine zj ?_ | refine zl ?_
 | ((first | apply zs | (apply zt; (focus rfl)) | (apply zu; (focus rfl)) | (apply zv; (focus rfl)) | apply zx | apply zy | apply zB | apply zC | apply zD | apply zE | apply zF); (focus ((conv => lhs; simp [hf']); first | done | rfl)); first | apply zk | (apply zn; (focus rfl); try (focus (first | rfl | (simp [hf']; done)))) | (apply zo; (focus rfl)) | apply gv_u | apply gv_tt | apply gv_ff | apply gv_ft | apply gv_tf))
  (apply zW; (focus ((conv => lhs; simp); first | done | rfl)); (focus exact cutR_runs (q1.push _))); intro v' h' q
  obtain ⟨q3, q4, q5⟩ := q
  subst q3
  rename_i h1
  have hsz5 := q5.1
  simp at hsz5
  have o1 : h'[h.size]? = some (.cells [.int .i64 0, .int .i64 0, .int .i64 0, .int .i64 0] 50) := by rw [q5.2 _ (by simp; omega) (by simp; omega), Array.getElem?_push, if_neg (by omega), q2.2 _ (by simp) (by simp; omega), Array.getElem?_push, if_pos rfl]
  have o2 : h'.cellsAt h1.size = some [.int .i64 (cutS l s).1.1, .int .i64 (cutS l s).1.2] := by rw [q5.cells (by simp) (by simp; omega)]; simp
  have hw1 : ∀ off vs, wr ⟨f, []⟩ h' h.size off vs = if f ≤ h.size ∧ vs.all one = true ∧ off + vs.length ≤ 4 then some (h'.setIfInBounds h.size (.cells (putAt [.int .i64 0, .int .i64 0, .int .i64 0, .int .i64 0] off vs) 50)) else none := fun off vs => by rw [wr_def o1]; rfl
  have hz : h.size < h'.size := by omega
  repeat (first
 | refine za ?_ | refine zb ?_ | refine zc ?_ | refine zd ?_ | refine ze ?_ | refine zf ?_ | refine zg ?_ | refine zh ?_ | (refine zi ?_; try refine RgD_plain rfl ?_) | refine w_drawn rfl ?_ | refine zj ?_ | refine zl ?_
 | ((first | apply zs | (apply zt; (focus rfl)) | (apply zu; (focus rfl)) | (apply zv; (focus rfl)) | apply zx | apply zy | apply zB | apply zC | apply zD | apply zE | apply zF); (focus ((conv => lhs; simp [o2, hw1, hfs, hz]); first | done | rfl)); first | apply zk | (apply zn; (focus rfl); try (focus (first | rfl | (simp [o2, hw1, hfs, hz]; done)))) | (apply zo; (focus rfl)) | apply gv_u | apply gv_tt | apply gv_ff | apply gv_ft | apply gv_tf))
  refine ⟨rfl, q4.setO (by omega) (fun q => by have := r.row.blt q; omega), ((((KeepB.refl h (some p)).push _).trans q2).trans (((KeepB.refl _ (some p)).push _).trans q5)).set _ (.inl (Nat.le_refl _))⟩
end Go.Proofs.YtmjaanhphkbkeaaGreat
end

section
namespace Go.Proofs.YtmjaanhphkbkeaaGreat
open Go.AM
set_option linter.unusedSimpArgs false
set_option linter.unusedVariables false
variable {f : Nat} {h : Heap}
theorem Rdr.keepX {h' : Heap} {p : Nat} {v : Value} {l : List Nat} {s : St} (r : Rdr f h p v l s) {x : Option Nat} (k : KeepB h h' x) (hp : x ≠ some p) (hv : x = none ∨ blk v ≠ x) : Rdr f h' p v l s :=
  ⟨r.fp, by rw [k.2 p r.lt hp]; exact r.cell, r.row.keepB k hv, r.ne, r.at_, r.len, r.by_⟩
theorem KeepB_new {h0 h1 h2 : Heap} {x y : Option Nat} (k : KeepB h0 h1 x) (k2 : KeepB h1 h2 y) (hy : y = none ∨ ∃ b, y = some b ∧ h0.size ≤ b) : KeepB h0 h2 x := by
  refine ⟨Nat.le_trans k.1 k2.1, fun z hz hne => ?_⟩
  rw [k2.2 z (by have := k.1; omega) ?_, k.2 z hz hne]
  rcases hy with rfl | ⟨b, rfl, hb⟩
  · intro q; cases q
  · intro q; cases q; omega
theorem _root_.Go.AM.Buf.keep {h' : Heap} {e k : Nat} {w : Value} {c : List Value} (hb : Buf f h e k w c) {x : Option Nat} (hk : KeepB h h' x) (hx : x = none ∨ blk w ≠ x) : Buf f h' e k w c := by
  rcases hb with q | ⟨b, n, rfl, q2, q3, q4⟩
  · exact .inl q
  · refine .inr ⟨b, n, rfl, q2, ?_, q4⟩
    rw [hk.2 b (Array.getElem?_eq_some_iff.1 q3).1 ?_]; exact q3
    rcases hx with rfl | hx
    · intro q; cases q
    · intro q; exact hx (by rw [q]; rfl)
def rowsN (l : List Nat) : Nat → St → List Sp × St
  | 0, s => ([], s)
  | n + 1, s => if (spanS l s).2.2 then ([], (spanS l s).2) else ((spanS l s).1 :: (rowsN l n (spanS l s).2).1, (rowsN l n (spanS l s).2).2)
def rowsS (l : List Nat) (s : St) : (List Sp × Nat) × St :=
  let s1 := onS s (if (readNum (l.drop s.1)).1 < 0 then 0 else (readNum (l.drop s.1)).2)
  if s1.2 then (([], s1.1), s1) else
  let r := rowsN l (readNum (l.drop s.1)).1.toNat s1
  if r.2.2 then (([], s1.1), r.2) else ((r.1, s1.1), r.2)
theorem onS_more {s : St} {n : Nat} (h : (onS s n).2 = false) : s.2 = false ∧ (onS s n).1 = s.1 + n ∧ 0 < n := by
  unfold onS at *
  split at h
  · simp at h
  · rename_i q
    simp at q
    rw [if_neg (by simp [q])]
    exact ⟨q.1, rfl, by omega⟩
theorem onS_le {s : St} {n : Nat} : s.1 ≤ (onS s n).1 := by unfold onS; split <;> simp
theorem spanS_more {l : List Nat} {s : St} (h : (spanS l s).2.2 = false) : s.2 = false ∧ s.1 < (spanS l s).2.1 := by
  unfold spanS cutS at *
  simp only at *
  obtain ⟨h1, h2, h3⟩ := onS_more h
  obtain ⟨h4, h5, h6⟩ := onS_more h1
  exact ⟨h4, by omega⟩
theorem spC_one (s : Sp) : (spC s).all one = true := rfl
theorem elems_one (xs : List Sp) : (elems spC xs).all one = true := all_one_ints (elems_ints spC_ints xs)
theorem rows_runs {p : Nat} {v : Value} {l : List Nat} {s : St} (r : Rdr f h p v l s) :
    callR X ⟨f, []⟩ 37 [.pointer (some ⟨p, 0, none⟩), .func (.func 34) #[.pointer (some ⟨p, 0, none⟩)] #[]] h fun n h' => ∃ w, n = .tuple #[w, .int .i64 (rowsS l s).1.2] ∧ Buf f h' 50 4 w (elems spC (rowsS l s).1.1) ∧ (blk w = none ∨ ∃ b, blk w = some b ∧ h.size ≤ b) ∧ Rdr f h' p v l (rowsS l s).2 ∧ KeepB h h' (some p) ∧ (rowsS l s).1.1.length ≤ 100000 := by
  have hc := r.cells
  have hlen := r.len
  have hat := r.at_
  have hlt := r.lt
  have hfp := r.fp
  have hrow := r.row
  obtain ⟨a, c, rfl⟩ := r.row.form
  have hbv : ∀ b, blk (.slice a l.length c) = some b → b < h.size := fun b q => hrow.blt q
  obtain ⟨s1, s2⟩ := hrow.from hat
  have hrl := readNum_len (l.drop s.1)
  rw [List.length_drop] at hrl
  have hrg := readNum_rng (l.drop s.1)
  refine callR_of rfl f37_is ?_
  simp only [f37r0, f37r1, f37r2, f37r3, f37r4, f37r5, f37r6, f37r7, f37r8, f37r9, f37r10, f37r11, f37r12, f37r13, f37r14, f37r15, f37l16, f37r17, f37b]
  -- behind the number
  by_cases hneg : (readNum (l.drop s.1)).1 < 0
  · have t0 : decide ((readNum (l.drop s.1)).1 < 0) = true := by simp [hneg]
    repeat (first
 | refine za ?_ | refine zb ?_ | refine zc ?_ | refine zd ?_ | refine ze ?_ | refine zf ?_ | refine zg ?_ | refine zh ?_ | (refine zi ?_; try refine RgD_plain rfl ?_) | refine w_drawn rfl ?_ | refine zj ?_ | refine zl ?_
 | ((first | apply zs | (apply zt; (focus rfl)) | (apply zu; (focus rfl)) | (apply zv; (focus rfl)) | apply zw | apply zx | apply zy | apply zB | apply zC | apply zD | apply zE | apply zF); (focus ((conv => lhs; simp [hc, s1, t0]); first | done | rfl)); first | apply zk | (apply zn; (focus rfl); try (focus (first | rfl | (simp [hc, s1, t0]; done)))) | (apply zo; (focus rfl)) | apply gv_u | apply gv_tt | apply gv_ff | apply gv_ft | apply gv_tf | exact (readNum_runs s2 (by rw [List.length_drop]; omega) (fun x hx => r.by_ x (List.mem_of_mem_drop hx)))))
    (apply zW; (focus ((conv => lhs; simp); first | done | rfl)); (focus exact on_runs (long := 0) r (by omega))); intro v' h' q
    obtain ⟨q1, q2⟩ := q
    have e : rowsS l s = (([], s.1), (s.1, true)) := by simp [rowsS, hneg, onS]
    have eo : onS s 0 = (s.1, true) := by simp [onS]
    rw [eo] at q1
    have hc' := q1.cells
    rw [e]
    repeat (first
 | refine za ?_ | refine zb ?_ | refine zc ?_ | refine zd ?_ | refine ze ?_ | refine zf ?_ | refine zg ?_ | refine zh ?_ | (refine zi ?_; try refine RgD_plain rfl ?_) | refine w_drawn rfl ?_ | refine zj ?_ | refine zl ?_
 | ((first | apply zs | (apply zt; (focus rfl)) | (apply zu; (focus rfl)) | (apply zv; (focus rfl)) | apply zx | apply zy | apply zB | apply zC | apply zD | apply zE | apply zF); (focus ((conv => lhs; simp [hc']); first | done | rfl)); first | apply zk | (apply zn; (focus rfl); try (focus (first | rfl | (simp [hc']; done)))) | (apply zo; (focus rfl)) | apply gv_u | apply gv_tt | apply gv_ff | apply gv_ft | apply gv_tf))
    exact ⟨_, rfl, .inl ⟨rfl, rfl⟩, .inl rfl, q1, q2, by simp⟩
  · have t0 : decide ((readNum (l.drop s.1)).1 < 0) = false := by simp; omega
    repeat (first
 | refine za ?_ | refine zb ?_ | refine zc ?_ | refine zd ?_ | refine ze ?_ | refine zf ?_ | refine zg ?_ | refine zh ?_ | (refine zi ?_; try refine RgD_plain rfl ?_) | refine w_drawn rfl ?_ | refine zj ?_ | refine zl ?_
 | ((first | apply zs | (apply zt; (focus rfl)) | (apply zu; (focus rfl)) | (apply zv; (focus rfl)) | apply zw | apply zx | apply zy | apply zB | apply zC | apply zD | apply zE | apply zF); (focus ((conv => lhs; simp [hc, s1, t0]); first | done | rfl)); first | apply zk | (apply zn; (focus rfl); try (focus (first | rfl | (simp [hc, s1, t0]; done)))) | (apply zo; (focus rfl)) | apply gv_u | apply gv_tt | apply gv_ff | apply gv_ft | apply gv_tf | exact (readNum_runs s2 (by rw [List.length_drop]; omega) (fun x hx => r.by_ x (List.mem_of_mem_drop hx)))))
    (apply zW; (focus ((conv => lhs; simp); first | done | rfl)); (focus exact on_runs (long := (readNum (l.drop s.1)).2) r (by omega))); intro v' h' q
    obtain ⟨q1, q2⟩ := q
    cases ham : (onS s (readNum (l.drop s.1)).2).2 with
    | true =>
      have e : rowsS l s = (([], (onS s (readNum (l.drop s.1)).2).1), onS s (readNum (l.drop s.1)).2) := by simp [rowsS, hneg, ham]
      have hc' := q1.cells
      rw [e]
      repeat (first
 | refine za ?_ | refine zb ?_ | refine zc ?_ | refine zd ?_ | refine ze ?_ | refine zf ?_ | refine zg ?_ | refine zh ?_ | (refine zi ?_; try refine RgD_plain rfl ?_) | refine w_drawn rfl ?_ | refine zj ?_ | refine zl ?_
 | ((first | apply zs | (apply zt; (focus rfl)) | (apply zu; (focus rfl)) | (apply zv; (focus rfl)) | apply zx | apply zy | apply zB | apply zC | apply zD | apply zE | apply zF); (focus ((conv => lhs; simp [hc', ham]); first | done | rfl)); first | apply zk | (apply zn; (focus rfl); try (focus (first | rfl | (simp [hc', ham]; done)))) | (apply zo; (focus rfl)) | apply gv_u | apply gv_tt | apply gv_ff | apply gv_ft | apply gv_tf))
      exact ⟨_, rfl, .inl ⟨rfl, rfl⟩, .inl rfl, q1, q2, by simp⟩
    | false =>
      have hc' := q1.cells
      generalize hs1 : onS s (readNum (l.drop s.1)).2 = st at *
      have e : rowsS l s = if (rowsN l (readNum (l.drop s.1)).1.toNat st).2.2 then (([], st.1), (rowsN l (readNum (l.drop s.1)).1.toNat st).2) else (((rowsN l (readNum (l.drop s.1)).1.toNat st).1, st.1), (rowsN l (readNum (l.drop s.1)).1.toNat st).2) := by
        simp [rowsS, hneg, hs1, ham]
      rw [e]
      generalize hn : (readNum (l.drop s.1)).1 = n at *
      repeat (first
 | refine za ?_ | refine zb ?_ | refine zc ?_ | refine zd ?_ | refine ze ?_ | refine zf ?_ | refine zg ?_ | refine zh ?_ | (refine zi ?_; try refine RgD_plain rfl ?_) | refine w_drawn rfl ?_ | refine zj ?_ | refine zl ?_
 | ((first | apply zs | (apply zt; (focus rfl)) | (apply zu; (focus rfl)) | (apply zv; (focus rfl)) | apply zx | apply zy | apply zB | apply zC | apply zD | apply zE | apply zF); (focus ((conv => lhs; simp [hc', ham]); first | done | rfl)); first | apply zk | (apply zn; (focus rfl); try (focus (first | rfl | (simp [hc', ham]; done)))) | (apply zo; (focus rfl)) | apply gv_u | apply gv_tt | apply gv_ff | apply gv_ft | apply gv_tf))

      refine w_loop (A := Nat × Value × List Sp × St) (fun A env h' => A.1 ≤ n.toNat ∧ env 0 = .pointer (some ⟨p, 0, none⟩) ∧ env 1 = .func (.func 34) #[.pointer (some ⟨p, 0, none⟩)] #[] ∧ env 41 = .int .i64 n ∧ env 42 = .int .i64 A.1 ∧ env 8 = .int .i64 st.1 ∧ env 9 = A.2.1 ∧
        Rdr f h' p (.slice a l.length c) l A.2.2.2 ∧ A.2.2.2.2 = false ∧ Buf f h' 50 4 A.2.1 (elems spC A.2.2.1) ∧ KeepB h h' (some p) ∧ (blk A.2.1 = none ∨ ∃ b, blk A.2.1 = some b ∧ h.size ≤ b) ∧ A.2.2.1.length = A.1 ∧ A.1 ≤ A.2.2.2.1 ∧
        rowsN l n.toNat st = (A.2.2.1 ++ (rowsN l (n.toNat - A.1) A.2.2.2).1, (rowsN l (n.toNat - A.1) A.2.2.2).2)) (fun A => l.length - A.2.2.2.1) (a0 := (0, .slice none 0 0, [], st))
        ⟨by simp, by simp, by simp, by simp, by simp, by simp, by simp, q1, ham, .inl ⟨rfl, rfl⟩, q2, .inl rfl, rfl, by simp, by simp⟩ ?_
      rintro ⟨k, w, xs, s3⟩ env h3 ⟨hk, e0, e1, e41, e42, e8, e9, hr3, ham3, hb3, hk3, hbl, hxl, hks, hrn⟩
      simp only at hk e0 e1 e41 e42 e8 e9 hr3 ham3 hb3 hk3 hbl hxl hks hrn
      have hn0 : 0 ≤ n := by omega
      by_cases hkn : k < n.toNat
      · have t1 : decide ((k : Int) < n) = true := by simp; omega
        have hd : n.toNat - k = (n.toNat - (k + 1)) + 1 := by omega
        rw [hd, rowsN] at hrn
        repeat (first
 | refine za ?_ | refine zb ?_ | refine zc ?_ | refine zd ?_ | refine ze ?_ | refine zf ?_ | refine zg ?_ | refine zh ?_ | (refine zi ?_; try refine RgD_plain rfl ?_) | refine w_drawn rfl ?_ | refine zj ?_ | refine zl ?_
 | ((first | apply zs | (apply zt; (focus rfl)) | (apply zu; (focus rfl)) | (apply zv; (focus rfl)) | apply zx | apply zy | apply zB | apply zC | apply zD | apply zE | apply zF); (focus ((conv => lhs; simp [e0, e1, e41, e42, e8, e9, t1]); first | done | rfl)); first | apply zk | (apply zn; (focus rfl); try (focus (first | rfl | (simp [e0, e1, e41, e42, e8, e9, t1]; done)))) | (apply zo; (focus rfl)) | apply gv_u | apply gv_tt | apply gv_ff | apply gv_ft | apply gv_tf))
        (apply zW; (focus ((conv => lhs; simp [e0, e1, e41, e42, e8, e9]); first | done | rfl)); (focus exact spanR_runs hr3)); intro v' h' q
        obtain ⟨q3, q4, q5⟩ := q
        subst q3
        have hf' : f ≤ h'.size := by have := q4.lt; omega
        have hc4 := q4.cells
        have np : ¬ p = h'.size := by have := q4.lt; omega
        cases ham4 : (spanS l s3).2.2 with
        | true =>
          rw [ham4] at hrn
          simp only [if_true] at hrn
          have hz : (rowsN l n.toNat st).2.2 = true := by rw [hrn]; exact ham4
          rw [if_pos hz]
          repeat (first
 | refine za ?_ | refine zb ?_ | refine zc ?_ | refine zd ?_ | refine ze ?_ | refine zf ?_ | refine zg ?_ | refine zh ?_ | (refine zi ?_; try refine RgD_plain rfl ?_) | refine w_drawn rfl ?_ | refine zj ?_ | refine zl ?_
 | ((first | apply zs | (apply zt; (focus rfl)) | (apply zu; (focus rfl)) | (apply zv; (focus rfl)) | apply zx | apply zy | apply zB | apply zC | apply zD | apply zE | apply zF); (focus ((conv => lhs; simp [e0, e1, e41, e42, e8, e9, hc4, ham4, np, hf']); first | done | rfl)); first | apply zk | (apply zn; (focus rfl); try (focus (first | rfl | (simp [e0, e1, e41, e42, e8, e9, hc4, ham4, np, hf']; done)))) | (apply zo; (focus rfl)) | apply gv_u | apply gv_tt | apply gv_ff | apply gv_ft | apply gv_tf))
          exact ⟨_, rfl, .inl ⟨rfl, rfl⟩, .inl rfl, by rw [hrn]; exact q4.push _, (hk3.trans q5).push _, by simp⟩
        | false =>
          rw [ham4] at hrn
          simp only [Bool.false_eq_true, if_false] at hrn
          have hm := spanS_more ham4
          have hat4 := q4.at_
          have w1 := wadd (i := k) (by omega)
          have hbw : blk w ≠ some p := by
            rcases hbl with q | ⟨b, q, hb⟩
            · rw [q]; simp
            · rw [q]; intro q2; cases q2; omega
          have hbw2 : blk w = none ∨ blk (.slice a l.length c) ≠ blk w := by
            rcases hbl with q | ⟨b, q, hb⟩
            · exact .inl q
            · right; intro q2; rw [q] at q2; have := hbv b q2; omega
          repeat (first
 | refine za ?_ | refine zb ?_ | refine zc ?_ | refine zd ?_ | refine ze ?_ | refine zf ?_ | refine zg ?_ | refine zh ?_ | (refine zi ?_; try refine RgD_plain rfl ?_) | refine w_drawn rfl ?_ | refine zj ?_ | refine zl ?_
 | ((first | apply zs | (apply zt; (focus rfl)) | (apply zu; (focus rfl)) | (apply zv; (focus rfl)) | apply zx | apply zy | apply zB | apply zC | apply zD | apply zE | apply zF); (focus ((conv => lhs; simp [e0, e1, e41, e42, e8, e9, hc4, ham4, np, hf', w1]); first | done | rfl)); first | apply zk | (apply zn; (focus rfl); try (focus (first | rfl | (simp [e0, e1, e41, e42, e8, e9, hc4, ham4, np, hf', w1]; done)))) | (apply zo; (focus rfl)) | apply gv_u | apply gv_tt | apply gv_ff | apply gv_ft | apply gv_tf))
          have hb5 : Buf f ((h'.push (.cells (spC (spanS l s3).1) 50)).push (.cells (spC (spanS l s3).1) 50)) 50 4 w (elems spC xs) := ((hb3.keep q5 (.inr hbw)).push _).push _
          obtain ⟨v2, h2, a1, a2, a3, a4⟩ := append_buf (by_ := 32) (n := k) (m := 1) (x := .slice (some ⟨h'.size + 1, 0, none⟩) 1 1) (l2 := spC (spanS l s3).1) (by omega) (by simp; omega) hb5 (by simp [srcCells, spC]) (by omega) (by rw [elems_len spC_len, hxl]) (elems_one xs) (spC_one _) (by omega) (by omega) rfl
          refine w_mem (v := v2) (h' := h2) rfl (by simpa [e9, spC] using a1) ?_
          repeat (first
 | refine za ?_ | refine zb ?_ | refine zc ?_ | refine zd ?_ | refine ze ?_ | refine zf ?_ | refine zg ?_ | refine zh ?_ | (refine zi ?_; try refine RgD_plain rfl ?_) | refine w_drawn rfl ?_ | refine zj ?_ | refine zl ?_
 | ((first | apply zs | (apply zt; (focus rfl)) | (apply zu; (focus rfl)) | (apply zv; (focus rfl)) | apply zx | apply zy | apply zB | apply zC | apply zD | apply zE | apply zF); (focus ((conv => lhs; simp [e0, e1, e41, e42, e8, e9, w1]); first | done | rfl)); first | apply zk | (apply zn; (focus rfl); try (focus (first | rfl | (simp [e0, e1, e41, e42, e8, e9, w1]; done)))) | (apply zo; (focus rfl)) | apply gv_u | apply gv_tt | apply gv_ff | apply gv_ft | apply gv_tf))
          refine ⟨(k + 1, v2, xs ++ [(spanS l s3).1], (spanS l s3).2), ⟨by simp only; omega, by simp [e0], by simp [e1], by simp [e41], by simp, by simp [e8], by simp, ((q4.push _).push _).keepX a3 hbw hbw2, ham4, by simpa using a2, ?_, .inr ⟨_, a4, ?_⟩, by simp [hxl], by simp only; omega, ?_⟩, ?_⟩
          · have k1 : KeepB h ((h'.push (.cells (spC (spanS l s3).1) 50)).push (.cells (spC (spanS l s3).1) 50)) (some p) := ((hk3.trans q5).push _).push _
            exact KeepB_new k1 a3 hbl
          · have := hk3.1; have := q5.1; simp; omega
          · rw [hrn]; simp
          · simp only; have := hr3.at_; omega
      · have t1 : decide ((k : Int) < n) = false := by simp; omega
        have hd : n.toNat - k = 0 := by omega
        rw [hd, rowsN] at hrn
        simp only [List.append_nil] at hrn
        have hz : (rowsN l n.toNat st).2.2 = false := by rw [hrn]; exact ham3
        rw [if_neg (by rw [hz]; simp), hrn]
        repeat (first
 | refine za ?_ | refine zb ?_ | refine zc ?_ | refine zd ?_ | refine ze ?_ | refine zf ?_ | refine zg ?_ | refine zh ?_ | (refine zi ?_; try refine RgD_plain rfl ?_) | refine w_drawn rfl ?_ | refine zj ?_ | refine zl ?_
 | ((first | apply zs | (apply zt; (focus rfl)) | (apply zu; (focus rfl)) | (apply zv; (focus rfl)) | apply zx | apply zy | apply zB | apply zC | apply zD | apply zE | apply zF); (focus ((conv => lhs; simp [e0, e1, e41, e42, e8, e9, t1]); first | done | rfl)); first | apply zk | (apply zn; (focus rfl); try (focus (first | rfl | (simp [e0, e1, e41, e42, e8, e9, t1]; done)))) | (apply zo; (focus rfl)) | apply gv_u | apply gv_tt | apply gv_ff | apply gv_ft | apply gv_tf))
        have := hr3.at_
        exact ⟨_, rfl, hb3, hbl, hr3, hk3, by simp only; omega⟩
end Go.Proofs.YtmjaanhphkbkeaaGreat
end
