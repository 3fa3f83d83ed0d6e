import Derived.Test.YtlgbeekhaoiggaaAmD
import Derived.Orders
set_option linter.all false
section
namespace Go.AM
theorem fold_bit {ops : Array Oper} {acc : Array Nat} : ∀ (l : List Edge) (s i : Nat), (l.foldl (fun s e => if Region.binds .any e then s ||| 2 ^ e.on ||| acc.getD e.on 0 else s) s).testBit i = true →
    s.testBit i = true ∨ ∃ e ∈ l, Region.binds .any e = true ∧ (e.on = i ∨ (acc.getD e.on 0).testBit i = true)
  | [], s, i, h => .inl h
  | e :: l, s, i, h => by
    rcases fold_bit (ops := ops) l _ i h with h | ⟨e', he, h1, h2⟩
    · dsimp only at h
      split at h
      · rename_i hb
        simp only [Nat.testBit_or, Bool.or_eq_true] at h
        rcases h with (h | h) | h
        · exact .inl h
        · rw [Nat.testBit_two_pow] at h; exact .inr ⟨e, by simp, hb, .inl (of_decide_eq_true h)⟩
        · exact .inr ⟨e, by simp, hb, .inr h⟩
      · exact .inl h
    · exact .inr ⟨e', by simp [he], h1, h2⟩
def BSound (ops : Array Oper) (acc : Array Nat) : Prop :=
  acc.size ≤ ops.size ∧ ∀ j i, j < acc.size → (acc.getD j 0).testBit i = true → ∃ o, ops[j]? = some o ∧ ∃ e ∈ o.after.toList, Region.binds .any e = true ∧ (e.on = i ∨ (e.on < j ∧ (acc.getD e.on 0).testBit i = true))
theorem BSound.push {ops : Array Oper} {acc : Array Nat} (h : BSound ops acc) {o : Oper} (ho : ops[acc.size]? = some o) :
    BSound ops (acc.push (o.after.foldl (fun s e => if Region.binds .any e then s ||| 2 ^ e.on ||| acc.getD e.on 0 else s) 0)) := by
  refine ⟨by simp; exact (Array.getElem?_eq_some_iff.1 ho).1, fun j i hj hb => ?_⟩
  have hget : ∀ k, k < acc.size → ∀ x, (acc.push x).getD k 0 = acc.getD k 0 := fun k hk x => by
    simp only [Array.getD_eq_getD_getElem?, Array.getElem?_push, if_neg (show k ≠ acc.size by omega)]
  by_cases hj' : j < acc.size
  · rw [hget j hj'] at hb
    obtain ⟨o', q1, e, q2, q3, q4⟩ := h.2 j i hj' hb
    refine ⟨o', q1, e, q2, q3, ?_⟩
    rcases q4 with q4 | ⟨q4, q5⟩
    · exact .inl q4
    · exact .inr ⟨q4, by rw [hget _ (by omega)]; exact q5⟩
  · have hje : j = acc.size := by simp at hj; omega
    subst hje
    simp only [Array.getD_eq_getD_getElem?, Array.getElem?_push, if_true, Option.getD_some, ← Array.foldl_toList] at hb
    rcases fold_bit (ops := ops) (acc := acc) o.after.toList 0 i (by simpa [Array.getD_eq_getD_getElem?] using hb) with q | ⟨e, q2, q3, q4⟩
    · simp at q
    · refine ⟨o, ho, e, q2, q3, ?_⟩
      rcases q4 with q4 | q4
      · exact .inl q4
      · right
        by_cases hlt : e.on < acc.size
        · exact ⟨hlt, by rw [hget _ hlt]; exact q4⟩
        · rw [Array.getD_eq_getD_getElem?, show acc[e.on]? = none by simp; omega] at q4; simp at q4
theorem before_sound_aux {ops : Array Oper} : ∀ (l : List Oper) (acc : Array Nat), ops.toList.drop acc.size = l → BSound ops acc →
    BSound ops (l.foldl (fun acc o => acc.push (o.after.foldl (fun s e => if Region.binds .any e then s ||| 2 ^ e.on ||| acc.getD e.on 0 else s) 0)) acc)
  | [], acc, hl, h => h
  | o :: l, acc, hl, h => by
    have ho : ops[acc.size]? = some o := by
      rw [← Array.getElem?_toList]
      have := congrArg (·[0]?) hl
      simpa [List.getElem?_drop] using this
    refine before_sound_aux l _ ?_ (h.push ho)
    have := congrArg List.tail hl
    simpa [List.tail_drop] using this
theorem before_sound (ops : Array Oper) : BSound ops (Region.before ops) := by
  unfold Region.before
  rw [← Array.foldl_toList]
  exact before_sound_aux ops.toList #[] rfl ⟨by simp, by simp⟩
def Cl (ops : Array Oper) (listed : Array Bool) : Prop := ∀ j o, listed.getD j false = true → ops[j]? = some o → ∀ e ∈ o.after.toList, Region.binds .any e = true → listed.getD e.on false = true
theorem closed_before {ops : Array Oper} {listed : Array Bool} (hc : Cl ops listed) {i : Nat} : ∀ (j : Nat) (o : Oper), ops[j]? = some o → (∀ e ∈ o.after.toList, Region.binds .any e = true → listed.getD e.on false = true) →
    ((Region.before ops).getD j 0).testBit i = true → listed.getD i false = true := by
  intro j
  induction j using Nat.strongRecOn with
  | _ j ih =>
    intro o ho hl hb
    by_cases hj : j < (Region.before ops).size
    · obtain ⟨o', q1, e, q2, q3, q4⟩ := (before_sound ops).2 j i hj hb
      rw [ho] at q1; cases q1
      have hle := hl e q2 q3
      rcases q4 with rfl | ⟨q4, q5⟩
      · exact hle
      · have hjs : e.on < ops.size := by have := (before_sound ops).1; omega
        exact ih e.on q4 ops[e.on] (by simp [hjs]) (hc e.on _ hle (by simp [hjs])) q5
    · rw [Array.getD_eq_getD_getElem?, show (Region.before ops)[j]? = none by simp; omega] at hb; simp at hb
theorem pairsOk_get {ops : Array Oper} {B : Array Nat} : ∀ {p : List (Nat × List Nat)}, pairsOk ops B p = true → ∀ (q q' : Nat) (x y : Nat × List Nat), q < q' → p[q]? = some x → p[q']? = some y → pairOk ops B x y = true
  | [], h, q, q', x, y, hl, hx, hy => by simp at hx
  | z :: p, h, q, q', x, y, hl, hx, hy => by
    simp only [pairsOk, Bool.and_eq_true, List.all_eq_true] at h
    obtain ⟨h1, h2⟩ := h
    cases q' with
    | zero => omega
    | succ q' =>
      cases q with
      | zero => simp at hx; subst hx; exact h1 y (List.mem_of_getElem? (i := q') (by simpa using hy))
      | succ q => exact pairsOk_get h2 q q' x y (by omega) (by simpa using hx) (by simpa using hy)
theorem ahead_get {ops : Array Oper} : ∀ {p : List (Nat × List Nat)} {seen : List Nat}, ahead ops seen p = true → ∀ (q : Nat) (x : Nat × List Nat), p[q]? = some x → ∀ e ∈ (ops.getD x.1 default).after.toList, Region.binds .any e = true →
      e.on ∈ seen ∨ ∃ q' y, q' < q ∧ p[q']? = some y ∧ y.1 = e.on
  | [], seen, h, q, x, hx, e, he, hb => by simp at hx
  | z :: p, seen, h, q, x, hx, e, he, hb => by
    simp only [ahead, Bool.and_eq_true] at h
    obtain ⟨h1, h2⟩ := h
    cases q with
    | zero =>
      simp at hx; subst hx
      rw [← Array.all_toList, List.all_eq_true] at h1
      have := h1 e he
      simp [hb] at this
      exact .inl this
    | succ q =>
      rcases ahead_get h2 q x (by simpa using hx) e he hb with h3 | ⟨q', y, h3, h4, h5⟩
      · rcases List.mem_cons.1 h3 with h3 | h3
        · exact .inr ⟨0, z, by omega, rfl, h3.symm⟩
        · exact .inl h3
      · exact .inr ⟨q' + 1, y, by omega, by simpa using h4, h5⟩
structure Plan (ops : Array Oper) (p : List (Nat × List Nat)) : Prop where
  len : p.length = ops.size
  cov : ∀ i : Nat, i < ops.size → ∃ (q : Nat) (re : List Nat), p[q]? = some (i, re)
  pair : ∀ (q q' : Nat) (x y : Nat × List Nat), q < q' → p[q]? = some x → p[q']? = some y → pairOk ops (Region.before ops) x y = true
  ahead : ∀ (q : Nat) (x : Nat × List Nat), p[q]? = some x → ∀ e ∈ (ops.getD x.1 default).after.toList, Region.binds .any e = true → ∃ (q' : Nat) (y : Nat × List Nat), q' < q ∧ p[q']? = some y ∧ y.1 = e.on
theorem plan_ok {ops : Array Oper} {p : List (Nat × List Nat)} (h : plan ops = some p) : Plan ops p := by
  unfold plan at h
  simp only at h
  split at h
  · split at h
    · rename_i hp
      cases h
      simp only [planOk, Bool.and_eq_true, beq_iff_eq, List.all_eq_true, List.any_eq_true] at hp
      obtain ⟨⟨⟨h1, h2⟩, h3⟩, h4⟩ := hp
      refine ⟨h1, fun i hi => ?_, fun q q' x y hq hx hy => pairsOk_get h3 q q' x y hq hx hy, fun q x hx e he hb => ?_⟩
      · obtain ⟨x, hx, hxi⟩ := h2 i (by simpa using hi)
        obtain ⟨q, hq⟩ := List.mem_iff_getElem?.1 hx
        exact ⟨q, x.2, by rw [hq, ← hxi]⟩
      · rcases ahead_get h4 q x hx e he hb with q1 | q1
        · simp at q1
        · exact q1
    · cases h
  · cases h
structure Pair (ops : Array Oper) (x y : Nat × List Nat) : Prop where
  ne : x.1 ≠ y.1
  dst : ∀ d, (ops.getD x.1 default).dst = some d → (ops.getD y.1 default).dst ≠ some d
  dop : isD (ops.getD x.1 default).op = true → ((Region.before ops).getD y.1 0).testBit x.1 = true
  re : isD (ops.getD y.1 default).op = true → isR (ops.getD x.1 default).op = true → x.1 ∈ y.2 ∨ ((Region.before ops).getD y.1 0).testBit x.1 = true
  to : ∀ d, (ops.getD x.1 default).dst = some d → d ∈ looks ops (ops.getD y.1 default) → ((Region.before ops).getD y.1 0).testBit x.1 = true
  fro : ∀ d, (ops.getD y.1 default).dst = some d → d ∈ looks ops (ops.getD x.1 default) → ((Region.before ops).getD y.1 0).testBit x.1 = true
theorem notAmong_some {d : Nat} {l : List Nat} (h : notAmong (some d) l = true) : d ∉ l := by
  simpa [notAmong] using h
theorem pair_ok {ops : Array Oper} {x y : Nat × List Nat} (h : pairOk ops (Region.before ops) x y = true) : Pair ops x y := by
  simp only [pairOk, Bool.and_eq_true, bne_iff_ne, ne_eq] at h
  obtain ⟨h1, h2, h3⟩ := h
  have hdst : ∀ d, (ops.getD x.1 default).dst = some d → (ops.getD y.1 default).dst ≠ some d := by
    intro d hd hd'
    rw [hd, hd'] at h2
    simp at h2
  rw [Bool.or_eq_true] at h3
  rcases h3 with h3 | h3
  · exact ⟨h1, hdst, fun _ => h3, fun _ _ => .inr h3, fun _ _ _ => h3, fun _ _ _ => h3⟩
  · simp only [Bool.and_eq_true] at h3
    obtain ⟨⟨⟨a1, a2⟩, a3⟩, a4⟩ := h3
    refine ⟨h1, hdst, fun hd => ?_, fun hd hr => ?_, fun d hd hl => ?_, fun d hd hl => ?_⟩
    · rw [hd] at a1; cases a1
    · rw [hd, hr] at a2; left; simpa using a2
    · rw [hd] at a3; exact absurd hl (notAmong_some a3)
    · rw [hd] at a4; exact absurd hl (notAmong_some a4)
end Go.AM
end

section
namespace Go.AM
variable {P : Program} {B0 : Nat × Nat} {κ : Ctx} {μ : Mu} {h : Heap} {w : World} {env : Env} {X : Tab} {n lo : Nat}
theorem veq1_eq {a b : Value} (h : veq1 a b = true) : a = b := by
  unfold veq1 at h
  split at h
  all_goals first | (cases h; done) | rfl | skip
  · rw [eq_of_beq h]
  · simp only [Bool.and_eq_true, beq_iff_eq] at h; rw [h.1, h.2]
  · rename_i a b
    have := eq_of_beq h
    have : a.data = b.data := Array.toList_inj.1 this
    congr 1; cases a; cases b; simp_all
  · rw [eq_of_beq h]
  · simp only [Bool.and_eq_true, beq_iff_eq] at h; rw [h.1.1, h.1.2, h.2]
  · rw [eq_of_beq h]
  · simp only [Bool.and_eq_true, beq_iff_eq] at h; rw [h.1, h.2]
theorem veqs_eq : ∀ {l m : List Value}, veqs l m = true → l = m
  | [], [], _ => rfl
  | a :: l, b :: m, h => by
    simp only [veqs, Bool.and_eq_true] at h
    rw [veq1_eq h.1, veqs_eq h.2]
  | [], _ :: _, h => by simp [veqs] at h
  | _ :: _, [], h => by simp [veqs] at h
theorem veq_eq {a b : Value} (h : veq a b = true) : a = b := by
  unfold veq at h
  split at h
  · rw [Array.toList_inj.1 (veqs_eq h)]
  · simp only [Bool.and_eq_true, beq_iff_eq] at h
    rw [h.1.1, Array.toList_inj.1 (veqs_eq h.1.2), Array.toList_inj.1 (veqs_eq h.2)]
  · exact veq1_eq h
def isRop : AOp → Bool
  | .load1 _ | .loadN .. | .bytesStr _ | .slice .. | .lookup .. => true
  | _ => false
theorem aVal_noR {ao : AOp} (hr : isRop ao = false) (h h' : Heap) : aVal env h ao = aVal env h' ao := by
  cases ao <;> first | rfl | (simp [isRop] at hr; done)
theorem cellsAt_mono {h' : Heap} (hm : ∀ (b : Nat) (y : AObj), h[b]? = some y → h'[b]? = some y) {b : Nat} {c : List Value} (e : h.cellsAt b = some c) : h'.cellsAt b = some c := by
  unfold Heap.cellsAt at e ⊢
  split at e
  · rename_i x t hx; rw [hm _ _ hx]; exact e
  · cases e
theorem srcCells_mono {h' : Heap} (hm : ∀ (b : Nat) (y : AObj), h[b]? = some y → h'[b]? = some y) {k : Nat} {v : Value} {r : Nat × List Value} (e : srcCells h k v = some r) : srcCells h' k v = some r := by
  unfold srcCells at e ⊢
  split at e
  · exact e
  · rename_i a nn cc hne
    split at e
    · cases e
    · rename_i hs
      rw [if_neg hs]
      split at e
      · rename_i hz; rw [if_pos hz]; exact e
      · rename_i hz
        rw [if_neg hz]
        obtain ⟨c, hc, e⟩ := Option.bind_eq_some_iff.1 e
        rw [cellsAt_mono hm hc]; exact e
  · exact e
  · cases e
theorem aVal_mono {h' : Heap} {ao : AOp} {v : Value} (hm : ∀ (b : Nat) (y : AObj), h[b]? = some y → h'[b]? = some y) (e : aVal env h ao = some v) : aVal env h' ao = some v := by
  cases hr : isRop ao with
  | false => rw [← aVal_noR hr h h']; exact e
  | true =>
    cases ao <;> first | (simp [isRop] at hr; done) | skip
    · rename_i a
      simp only [aVal] at e ⊢
      generalize a.val env = x at e ⊢
      unfold rd1 at e ⊢
      split at e
      · split at e
        · cases e
        · rename_i hs
          rw [if_neg hs]
          obtain ⟨c, hc, e⟩ := Option.bind_eq_some_iff.1 e
          rw [cellsAt_mono hm hc]; exact e
      · cases e
    · rename_i nn a
      simp only [aVal] at e ⊢
      generalize a.val env = x at e ⊢
      unfold rdN at e ⊢
      split at e
      · split at e
        · cases e
        · rename_i hs
          rw [if_neg hs]
          obtain ⟨c, hc, e⟩ := Option.bind_eq_some_iff.1 e
          rw [cellsAt_mono hm hc]; exact e
      · cases e
    · rename_i x
      simp only [aVal] at e ⊢
      generalize x.val env = y at e ⊢
      split at e
      · exact e
      · obtain ⟨r, hr, e⟩ := Option.bind_eq_some_iff.1 e
        simp only [srcCells_mono hm hr]; exact e
      · cases e
    · rename_i t k x lo hi mx
      simp only [aVal] at e ⊢
      generalize x.val env = y at e ⊢
      unfold sliceV at e ⊢
      split at e
      · simp only [Option.bind_eq_some_iff] at e ⊢
        obtain ⟨m, h1, j, h2, i, h3, e⟩ := e
        refine ⟨m, h1, j, h2, i, h3, ?_⟩
        split at e
        · exact e
        · split at e
          · rename_i hx; simp only [hm _ _ hx]; exact e
          · rename_i hx; simp only [hm _ _ hx]; exact e
          · cases e
      · cases e
    · rename_i ok z m k
      simp only [aVal] at e ⊢
      split at e
      · rename_i r kk nn hmm hk
        split at e
        · rename_i es hx; simp only [hm _ _ hx]; exact e
        · cases e
      · cases e
theorem cOp_noD {o : Oper} {ao : AOp} (hc : cOp P o = some ao) (hd : isD o.op = false) : isDop ao = false := by
  cases hop : o.op with
  | store t a x => rw [hop] at hd; simp [isD] at hd
  | next x b => rw [hop] at hd; simp [isD] at hd
  | insert t m k x => rw [hop] at hd; simp [isD] at hd
  | call c =>
    rw [hop] at hd
    unfold cOp at hc; rw [hop] at hc
    obtain ⟨cal, args, aty⟩ := c
    cases cal with
    | value f => simp [isD] at hd
    | invoke r nm => simp [isD] at hd
    | builtin b =>
      simp only at hc
      unfold cBuiltin at hc
      split at hc
      · unfold cLen at hc
        split at hc
        · obtain ⟨_, _, e'⟩ := Option.map_eq_some_iff.1 hc; cases e'; rfl
        · obtain ⟨_, _, e'⟩ := Option.map_eq_some_iff.1 hc; cases e'; rfl
        · cases hc; rfl
        · cases hc
      · simp [isD] at hd
      · simp [isD] at hd
      · simp [isD] at hd
      · simp only [Option.pure_def, Option.bind_eq_bind, Option.bind_eq_some_iff] at hc
        obtain ⟨_, _, _, _, e'⟩ := hc; cases e'; rfl
      · simp only [Option.pure_def, Option.bind_eq_bind, Option.bind_eq_some_iff] at hc
        obtain ⟨_, _, _, _, e'⟩ := hc; cases e'; rfl
      · cases hc
  | _ => exact cOp_isDop hc (by rw [hop]; intros; exact fun e => by cases e) (by rw [hop]; intros; exact fun e => by cases e) (by rw [hop]; intros; exact fun e => by cases e) (by rw [hop]; intros; exact fun e => by cases e)
end Go.AM
end

section
namespace Go.AM
variable {P : Program} {B0 : Nat × Nat} {κ : Ctx} {μ : Mu} {h : Heap} {w : World} {env : Env} {X : Tab} {n lo : Nat}
theorem cOp_noR {o : Oper} {ao : AOp} (hc : cOp P o = some ao) (hd : isR o.op = false) : isRop ao = false := by
  cases hop : o.op with
  | load t a => rw [hop] at hd; simp [isR] at hd
  | convert s d x => rw [hop] at hd; simp [isR] at hd
  | lookup t m k b => rw [hop] at hd; simp [isR] at hd
  | slice t x lo hi mx => rw [hop] at hd; simp [isR] at hd
  | call c =>
    unfold cOp at hc; rw [hop] at hc
    clear hd
    dsimp only at hc
    split at hc
    · simp only [Option.pure_def, Option.bind_eq_bind, Option.bind_eq_some_iff] at hc
      obtain ⟨_, _, _, _, e'⟩ := hc; cases e'; rfl
    · simp only [Option.pure_def, Option.bind_eq_bind, Option.bind_eq_some_iff] at hc
      obtain ⟨_, _, _, _, e'⟩ := hc; cases e'; rfl
    · unfold cBuiltin at hc
      split at hc
      · unfold cLen at hc
        split at hc
        · obtain ⟨_, _, e'⟩ := Option.map_eq_some_iff.1 hc; cases e'; rfl
        · obtain ⟨_, _, e'⟩ := Option.map_eq_some_iff.1 hc; cases e'; rfl
        · cases hc; rfl
        · cases hc
      · unfold cAppend at hc
        simp only [Option.pure_def, Option.bind_eq_bind, Option.bind_eq_some_iff] at hc
        obtain ⟨_, _, _, _, _, _, _, _, hc⟩ := hc
        split at hc
        · cases hc
        · simp only [Option.bind_eq_some_iff] at hc
          obtain ⟨_, _, _, _, e'⟩ := hc; cases e'; rfl
      · unfold cCopy at hc
        simp only [Option.pure_def, Option.bind_eq_bind, Option.bind_eq_some_iff] at hc
        obtain ⟨_, _, _, _, _, _, _, _, e'⟩ := hc; cases e'; rfl
      · unfold cClear at hc
        simp only [Option.pure_def, Option.bind_eq_bind, Option.bind_eq_some_iff] at hc
        obtain ⟨_, _, _, _, _, _, hc⟩ := hc
        split at hc
        · cases hc
        · simp only [Option.bind_eq_some_iff] at hc
          obtain ⟨_, _, e'⟩ := hc; cases e'; rfl
      · simp only [Option.pure_def, Option.bind_eq_bind, Option.bind_eq_some_iff] at hc
        obtain ⟨_, _, _, _, e'⟩ := hc; cases e'; rfl
      · simp only [Option.pure_def, Option.bind_eq_bind, Option.bind_eq_some_iff] at hc
        obtain ⟨_, _, _, _, e'⟩ := hc; cases e'; rfl
      · cases hc
  | makeMap t r =>
    unfold cOp at hc; rw [hop] at hc
    cases r with
    | none =>
      simp only [Option.pure_def, Option.bind_eq_bind, Option.bind_eq_some_iff] at hc
      obtain ⟨_, _, hc⟩ := hc
      split at hc
      · simp only [Option.bind_eq_some_iff] at hc
        obtain ⟨_, _, hc⟩ := hc
        split at hc
        · cases hc; rfl
        · cases hc
      · cases hc
    | some q =>
      cases q <;> try (cases hc; done)
      rename_i vv
      cases vv <;> try (cases hc; done)
      simp only [Option.pure_def, Option.bind_eq_bind, Option.bind_eq_some_iff] at hc
      obtain ⟨_, _, hc⟩ := hc
      split at hc
      · simp only [Option.bind_eq_some_iff] at hc
        obtain ⟨_, _, hc⟩ := hc
        split at hc
        · cases hc; rfl
        · cases hc
      · cases hc
  | next x b =>
    unfold cOp at hc; rw [hop] at hc
    cases b with
    | false => cases hc
    | true =>
      simp only [Option.pure_def, Option.bind_eq_bind, Option.bind_eq_some_iff] at hc
      obtain ⟨_, _, e'⟩ := hc; cases e'; rfl
  | _ =>
    unfold cOp at hc
    rw [hop] at hc
    clear hd
    first
      | (cases hc; done)
      | (simp only [Option.pure_def, Option.bind_eq_bind, Option.bind_eq_some_iff] at hc
         repeat' (first
           | (cases hc; done)
           | (cases hc; rfl)
           | (obtain ⟨_, _, hc⟩ := hc)
           | (simp only [Option.bind_eq_some_iff, Option.map_eq_some_iff] at hc)
           | (unfold cEq at hc)
           | (unfold cPart at hc; simp only [Option.pure_def, Option.bind_eq_bind, Option.bind_eq_some_iff] at hc)
           | (subst hc; rfl)
           | (split at hc))
         all_goals (first | rfl | skip))
structure Tr (P : Program) (X : Tab) (n : Nat) (κ : Ctx) (is : List AIns) (p : List (Nat × List Nat)) (E : Nat → Env) (G : Nat → Heap) (V : Nat → Option Value) : Prop where
  step : ∀ (q j : Nat) (re : List Nat), p[q]? = some (j, re) → ∃ i, is[j]? = some i ∧ aIns (callV X n κ) X.meth κ i (E q) (G q) = some (V q, E (q + 1), G (q + 1))
  still : ∀ (q j : Nat) (re : List Nat), p[q]? = some (j, re) → ∀ (q' j' : Nat) (re' : List Nat) (v : Value) (i : AIns), q' < q → p[q']? = some (j', re') → V q' = some v → j' ∈ re → is[j']? = some i →
    aVal (E q') (G (q + 1)) i.op = some v
theorem still_some {is : List AIns} {re : List Nat} {j : Nat} {v : Value} {i : AIns} (hs : still is re h (j, env, v) = true) (hj : j ∈ re) (hi : is[j]? = some i) : aVal env h i.op = some v := by
  unfold still at hs
  simp only [hi] at hs
  have : re.contains j = true := by simpa using hj
  rw [this] at hs
  simp only [Bool.not_true, Bool.false_or] at hs
  split at hs
  · rename_i v' hv
    rw [hv, veq_eq hs]
  · cases hs
theorem trace_aux {is : List AIns} : ∀ (p : List (Nat × List Nat)) (snap : List (Nat × Env × Value)) (env : Env) (h : Heap) (env' : Env) (h' : Heap), aRegD (callV X n κ) X.meth κ is p snap env h = some (env', h') →
    ∃ E G V, E 0 = env ∧ G 0 = h ∧ E p.length = env' ∧ G p.length = h' ∧ Tr P X n κ is p E G V ∧
      ∀ (q j : Nat) (re : List Nat), p[q]? = some (j, re) → ∀ s ∈ snap, still is re (G (q + 1)) s = true
  | [], snap, env, h, env', h', e => by
    simp only [aRegD] at e
    cases e
    exact ⟨fun _ => env, fun _ => h, fun _ => none, rfl, rfl, rfl, rfl, ⟨fun q j re hq => by simp at hq, fun q j re hq => by simp at hq⟩, fun q j re hq => by simp at hq⟩
  | (j, re) :: p, snap, env, h, env', h', e => by
    simp only [aRegD] at e
    split at e
    · cases e
    · rename_i i hi
      split at e
      · cases e
      · rename_i vo env1 h1 he
        split at e
        · rename_i hst
          rw [List.all_eq_true] at hst
          obtain ⟨E, G, V, e0, g0, eL, gL, T, hsn⟩ := trace_aux p (snapped j env vo snap) env1 h1 env' h' e
          let E' : Nat → Env := fun q => match q with | 0 => env | q + 1 => E q
          let G' : Nat → Heap := fun q => match q with | 0 => h | q + 1 => G q
          let V' : Nat → Option Value := fun q => match q with | 0 => vo | q + 1 => V q
          refine ⟨E', G', V', rfl, rfl, eL, gL, ⟨fun q j1 re1 hq => ?_, fun q j1 re1 hq q' j' re' v i1 hl hq' hv hj hi1 => ?_⟩, fun q j1 re1 hq s hs => ?_⟩
          · cases q with
            | zero =>
              simp at hq
              obtain ⟨rfl, rfl⟩ := hq
              refine ⟨i, hi, ?_⟩
              show aIns (callV X n κ) X.meth κ i env h = some (vo, E 0, G 0)
              rw [e0, g0]; exact he
            | succ q => exact T.step q j1 re1 (by simpa using hq)
          · cases q with
            | zero => omega
            | succ q =>
              cases q' with
              | zero =>
                simp at hq'
                obtain ⟨rfl, rfl⟩ := hq'
                have hv' : vo = some v := hv
                subst hv'
                exact still_some (hsn q j1 re1 (by simpa using hq) (j, env, v) (by simp [snapped])) hj hi1
              | succ q' => exact T.still q j1 re1 (by simpa using hq) q' j' re' v i1 (by omega) (by simpa using hq') hv hj hi1
          · cases q with
            | zero =>
              simp at hq
              obtain ⟨rfl, rfl⟩ := hq
              show still is re (G 0) s = true
              rw [g0]; exact hst s hs
            | succ q =>
              refine hsn q j1 re1 (by simpa using hq) s ?_
              unfold snapped
              split
              · exact List.mem_cons_of_mem _ hs
              · exact hs
        · cases e
theorem trace_ok {is : List AIns} {p : List (Nat × List Nat)} {env' : Env} {h' : Heap} (e : aRegD (callV X n κ) X.meth κ is p [] env h = some (env', h')) :
    ∃ E G V, E 0 = env ∧ G 0 = h ∧ E p.length = env' ∧ G p.length = h' ∧ Tr P X n κ is p E G V := by
  obtain ⟨E, G, V, h1, h2, h3, h4, h5, _⟩ := trace_aux (P := P) p [] env h env' h' e
  exact ⟨E, G, V, h1, h2, h3, h4, h5⟩
end Go.AM
end

section
namespace Go.AM
variable {P : Program} {B0 : Nat × Nat} {κ : Ctx} {μ : Mu} {h : Heap} {w : World} {env : Env} {X : Tab} {n lo : Nat}
variable {ops : Array Oper} {is : List AIns} {p : List (Nat × List Nat)} {E : Nat → Env} {G : Nat → Heap} {V : Nat → Option Value} {nt : Nat}
abbrev opA (ops : Array Oper) (j : Nat) : Oper := ops.getD j default
theorem at_pos (T : Tr P X n κ is p E G V) (hc : cIs P nt ops ops.toList = some is) {q j : Nat} {re : List Nat} (hq : p[q]? = some (j, re)) :
    ∃ i, ops[j]? = some (opA ops j) ∧ is[j]? = some i ∧ cIns P nt ops (opA ops j) = some i ∧ aIns (callV X n κ) X.meth κ i (E q) (G q) = some (V q, E (q + 1), G (q + 1)) := by
  obtain ⟨i, hi, ha⟩ := T.step q j re hq
  obtain ⟨q1, q2⟩ := cIs_get hc
  have hj : j < ops.size := by have := (List.getElem?_eq_some_iff.1 hi).1; rw [q1] at this; simpa using this
  obtain ⟨i', hi', hci⟩ := q2 j ops[j] (by simp [hj])
  rw [hi] at hi'; cases hi'
  have ho : opA ops j = ops[j] := by simp [opA, hj]
  exact ⟨i, by rw [ho]; simp [hj], hi, by rw [ho]; exact hci, ha⟩
theorem aIns_cases {i : AIns} {vo : Option Value} {env' : Env} {h' : Heap} (e : aIns (callV X n κ) X.meth κ i env h = some (vo, env', h')) :
    env' = put env i.dst (vo.getD undef) ∧ ((wanted env i.guard = false ∧ vo = none ∧ h' = h) ∨ (wanted env i.guard = true ∧ ∃ v, vo = some v ∧ aOp (callV X n κ) X.meth κ env h i.op = some (v, h'))) := by
  unfold aIns at e
  by_cases hw : wanted env i.guard = true
  · rw [if_pos hw] at e
    split at e
    · rename_i v h2 hv; cases e; exact ⟨rfl, .inr ⟨hw, v, rfl, hv⟩⟩
    · cases e
  · rw [if_neg hw] at e; cases e; exact ⟨rfl, .inl ⟨by simpa using hw, rfl, rfl⟩⟩
theorem put_ne {d : Option Nat} {v : Value} {t : Nat} (h : d ≠ some t) : put env d v t = env t := by
  cases d with
  | none => rfl
  | some d => simp only [put, upd]; rw [if_neg]; intro e; exact h (by rw [e])
theorem env_miss (T : Tr P X n κ is p E G V) (hc : cIs P nt ops ops.toList = some is) {t : Nat} : ∀ (q : Nat), q ≤ p.length → (∀ (q' j : Nat) (re : List Nat), q' < q → p[q']? = some (j, re) → (opA ops j).dst ≠ some t) → E q t = E 0 t
  | 0, _, _ => rfl
  | q + 1, hq, hm => by
    obtain ⟨⟨j, re⟩, hj⟩ : ∃ x, p[q]? = some x := ⟨p[q], by simp⟩
    obtain ⟨i, h1, h2, h3, h4⟩ := at_pos T hc hj
    rw [(aIns_cases h4).1]
    have hd := (cIns_inv h3).2.1
    have hne := hm q j re (by omega) hj
    rw [← env_miss T hc q (by omega) fun q' j' re' hl hp => hm q' j' re' (by omega) hp]
    exact put_ne (by rw [hd]; exact hne)
theorem env_hit (T : Tr P X n κ is p E G V) (hc : cIs P nt ops ops.toList = some is) (hp : Plan ops p) {t j : Nat} {re : List Nat} {q' : Nat} (hq' : p[q']? = some (j, re)) (hd : (opA ops j).dst = some t) : ∀ (q : Nat), q' < q → q ≤ p.length → E q t = (V q').getD undef
  | 0, hl, _ => by omega
  | q + 1, hl, hq => by
    obtain ⟨⟨j1, re1⟩, hj⟩ : ∃ x, p[q]? = some x := ⟨p[q], by simp⟩
    obtain ⟨i, h1, h2, h3, h4⟩ := at_pos T hc hj
    rw [(aIns_cases h4).1]
    have hdi := (cIns_inv h3).2.1
    by_cases hqq : q' = q
    · subst hqq
      rw [hq'] at hj; cases hj
      rw [hdi, hd]
      simp [put, upd]
    · have hlt : q' < q := by omega
      rw [← env_hit T hc hp hq' hd q hlt (by omega)]
      have hpr := pair_ok (hp.pair q' q _ _ hlt hq' hj)
      exact put_ne (by rw [hdi]; exact hpr.dst _ hd)
theorem pos_inj (hp : Plan ops p) {q q' j : Nat} {re re' : List Nat} (h1 : p[q]? = some (j, re)) (h2 : p[q']? = some (j, re')) : q = q' := by
  rcases Nat.lt_trichotomy q q' with hl | hl | hl
  · exact absurd rfl (pair_ok (hp.pair q q' _ _ hl h1 h2)).ne
  · exact hl
  · exact absurd rfl (pair_ok (hp.pair q' q _ _ hl h2 h1)).ne
structure Inv (P : Program) (B0 : Nat × Nat) (κ : Ctx) (ops : Array Oper) (is : List AIns) (p : List (Nat × List Nat)) (E : Nat → Env) (G : Nat → Heap) (V : Nat → Option Value) (nt : Nat) (μ0 : Mu) (w0 : World) (a0 : Act)
    (listed : Array Bool) (μ : Mu) (a : Act) (w : World) (en : Nat) : Prop where
  sz : listed.size = ops.size
  cl : Cl ops listed
  enl : en ≤ p.length
  dl : ∀ (q j : Nat) (re : List Nat), q < en → p[q]? = some (j, re) → isD (opA ops j).op = true → listed.getD j false = true
  ul : ∀ (q j : Nat) (re : List Nat), en ≤ q → p[q]? = some (j, re) → listed.getD j false = false
  st : St P B0 κ μ (G en) w
  fr : Fr B0 κ.fl μ0 (G 0) w0 μ (G en) w
  mono : ∀ q q', q ≤ q' → q' ≤ en → (G q).size ≤ (G q').size
  res : ∀ (q j : Nat) (re : List Nat), p[q]? = some (j, re) → listed.getD j false = true → ∀ d, (opA ops j).dst = some d → VR μ ((V q).getD undef) (a.tmps.getD d undef)
  old : ∀ t, (∀ (q j : Nat) (re : List Nat), p[q]? = some (j, re) → listed.getD j false = true → (opA ops j).dst ≠ some t) → VR μ (E 0 t) (a.tmps.getD t undef)
  new : ∀ (q j : Nat) (re : List Nat) (i : AIns) (x : AObj) (mk : Nat → Value), q < en → p[q]? = some (j, re) → listed.getD j false = false → is[j]? = some i → wanted (E q) i.guard = true → aNew (E q) i.op = some (x, mk) →
    μ (G q).size = .un ∧ (G en)[(G q).size]? = some x ∧ (G (q + 1)).size = (G q).size + 1
  rd : ∀ (q j : Nat) (re : List Nat) (i : AIns) (v : Value), q < en → p[q]? = some (j, re) → listed.getD j false = false → is[j]? = some i → V q = some v → aNew (E q) i.op = none → aVal (E q) (G en) i.op = some v
  nt : nt ≤ a.tmps.size
  df : a.defers = a0.defers
variable {μ0 : Mu} {w0 : World} {a0 : Act} {listed : Array Bool} {a : Act} {en : Nat}
theorem Inv.on (I : Inv P B0 κ ops is p E G V nt μ0 w0 a0 listed μ a w en) (T : Tr P X n κ is p E G V) (hc : cIs P nt ops ops.toList = some is) {j : Nat} {re : List Nat} (hj : p[en]? = some (j, re))
    (hd : isD (opA ops j).op = false) : Inv P B0 κ ops is p E G V nt μ0 w0 a0 listed μ a w (en + 1) := by
  obtain ⟨i, h1, h2, h3, h4⟩ := at_pos T hc hj
  obtain ⟨he, hcase⟩ := aIns_cases h4
  have hul := I.ul en j re (Nat.le_refl _) hj
  have hlt : en < p.length := (List.getElem?_eq_some_iff.1 hj).1
  have hnoD := cOp_noD (cIns_inv h3).1 hd
  have base : ∀ (hst : St P B0 κ μ (G (en + 1)) w) (hfr : Fr B0 κ.fl μ0 (G 0) w0 μ (G (en + 1)) w) (hmono : ∀ (b : Nat) (y : AObj), (G en)[b]? = some y → (G (en + 1))[b]? = some y) (hsz : (G en).size ≤ (G (en + 1)).size)
      (hnew : ∀ x mk, wanted (E en) i.guard = true → aNew (E en) i.op = some (x, mk) → μ (G en).size = .un ∧ (G (en + 1))[(G en).size]? = some x ∧ (G (en + 1)).size = (G en).size + 1)
      (hrd : ∀ v, V en = some v → aNew (E en) i.op = none → aVal (E en) (G (en + 1)) i.op = some v), Inv P B0 κ ops is p E G V nt μ0 w0 a0 listed μ a w (en + 1) := by
    intro hst hfr hmono hsz hnew hrd
    refine ⟨I.sz, I.cl, hlt, fun q j' re' hq hp' hD => ?_, fun q j' re' hq hp' => I.ul q j' re' (by omega) hp', hst, hfr, fun q q' hqq hq' => ?_, I.res, I.old, fun q j' re' i' x mk hq hp' hl hi' hw hn => ?_, fun q j' re' i' v hq hp' hl hi' hv hn => ?_, I.nt, I.df⟩
    · by_cases hqe : q = en
      · subst hqe; rw [hj] at hp'; cases hp'; rw [hd] at hD; cases hD
      · exact I.dl q j' re' (by omega) hp' hD
    · by_cases hqe : q' = en + 1
      · subst hqe
        by_cases hqe' : q = en + 1
        · subst hqe'; exact Nat.le_refl _
        · exact Nat.le_trans (I.mono q en (by omega) (Nat.le_refl _)) hsz
      · exact I.mono q q' hqq (by omega)
    · by_cases hqe : q = en
      · subst hqe; rw [hj] at hp'; cases hp'; rw [h2] at hi'; cases hi'; exact hnew x mk hw hn
      · obtain ⟨r1, r2, r3⟩ := I.new q j' re' i' x mk (by omega) hp' hl hi' hw hn
        exact ⟨r1, hmono _ _ r2, r3⟩
    · by_cases hqe : q = en
      · subst hqe; rw [hj] at hp'; cases hp'; rw [h2] at hi'; cases hi'; exact hrd v hv hn
      · exact aVal_mono hmono (I.rd q j' re' i' v (by omega) hp' hl hi' hv hn)
  rcases hcase with ⟨hw, hv, hg⟩ | ⟨hw, v, hv, hop⟩
  · rw [hg] at base
    exact base I.st I.fr (fun b y hy => hy) (Nat.le_refl _) (fun x mk hw' _ => by rw [hw] at hw'; cases hw') (fun v hv' _ => by rw [hv] at hv'; cases hv')
  · rw [aOp_pure hnoD] at hop
    unfold aPure at hop
    split at hop
    · rename_i x mk hn
      simp only [Option.some.injEq, Prod.mk.injEq] at hop
      obtain ⟨hv2, hg⟩ := hop
      rw [← hg] at base
      have hpush : ∀ (b : Nat) (y : AObj), (G en)[b]? = some y → ((G en).push x)[b]? = some y := by
        intro b y hy
        have := (Array.getElem?_eq_some_iff.1 hy).1
        rw [Array.getElem?_push_lt this, ← Array.getElem?_eq_getElem]; exact hy
      have hS := I.st
      refine base ⟨hS.hr.push x, hS.fl, by have := hS.fle; simp; omega, fun c hc' => by have := hS.cle c hc'; simp; omega, fun c hc' b hb hm y hy => ?_⟩ ?_ hpush (by simp) (fun x' mk' _ hn' => ?_) (fun v' _ hn' => by rw [hn] at hn'; cases hn')
      · have := hS.cle c hc'
        rw [Array.getElem?_push_lt (by omega), ← Array.getElem?_eq_getElem] at hy
        exact hS.ceil c hc' b hb hm y hy
      · have hf := I.fr
        refine ⟨hf.le, by have := hf.size; simp; omega, fun b hb e => ?_, fun b hb => ?_, hf.csize, hf.cun, hf.clow, hf.os, hf.tape, hf.output⟩
        · have := hf.size
          rw [Array.getElem?_push_lt (by omega), ← Array.getElem?_eq_getElem]; exact hf.un b hb e
        · have := hS.fle
          rw [Array.getElem?_push_lt (by omega), ← Array.getElem?_eq_getElem]; exact hf.low b hb
      · rw [hn] at hn'; cases hn'
        exact ⟨hS.hr.un_size, by simp, by simp⟩
    · rename_i hn
      obtain ⟨v', hv', e2⟩ := Option.map_eq_some_iff.1 hop
      simp only [Prod.mk.injEq] at e2
      obtain ⟨e3, hg⟩ := e2
      rw [← hg] at base
      refine base I.st I.fr (fun b y hy => hy) (Nat.le_refl _) (fun x mk _ hn' => by rw [hn] at hn'; cases hn') (fun v2 hv2 _ => ?_)
      rw [hv] at hv2; cases hv2
      rw [← e3]; exact hv'
theorem Inv.onto (T : Tr P X n κ is p E G V) (hc : cIs P nt ops ops.toList = some is) : ∀ (k : Nat) (en : Nat), p.length - en = k → Inv P B0 κ ops is p E G V nt μ0 w0 a0 listed μ a w en →
    ∃ en', Inv P B0 κ ops is p E G V nt μ0 w0 a0 listed μ a w en' ∧ ∀ (j : Nat) (re : List Nat), p[en']? = some (j, re) → isD (opA ops j).op = true
  | 0, en, hk, I => ⟨en, I, fun j re hj => by have := (List.getElem?_eq_some_iff.1 hj).1; omega⟩
  | k + 1, en, hk, I => by
    obtain ⟨⟨j, re⟩, hj⟩ : ∃ x, p[en]? = some x := ⟨p[en], by simp⟩
    cases hd : isD (opA ops j).op with
    | true => exact ⟨en, I, fun j' re' hj' => by rw [hj] at hj'; cases hj'; exact hd⟩
    | false => exact Inv.onto T hc k (en + 1) (by omega) (I.on T hc hj hd)
end Go.AM
end

section
namespace Go.AM
variable {P : Program} {B0 : Nat × Nat} {κ : Ctx} {μ : Mu} {h : Heap} {w : World} {env : Env} {X : Tab} {n lo : Nat}
variable {ops : Array Oper} {is : List AIns} {p : List (Nat × List Nat)} {E : Nat → Env} {G : Nat → Heap} {V : Nat → Option Value} {nt : Nat}
variable {μ0 : Mu} {w0 : World} {a0 : Act} {listed : Array Bool} {a : Act} {en : Nat}
theorem ready_mem {i : Nat} : i ∈ Region.ready .any ops listed ↔ i < ops.size ∧ listed.getD i true = false ∧ ∃ o, ops[i]? = some o ∧ ∀ e ∈ o.after.toList, Region.binds .any e = true → listed.getD e.on false = true := by
  unfold Region.ready
  simp only [List.mem_filter, List.mem_range, Bool.and_eq_true, Bool.not_eq_true']
  refine and_congr_right fun hi => and_congr_right fun hl => ?_
  rw [show ops[i]? = some ops[i] by simp [hi]]
  simp only [Option.map_some, Option.getD_some, Option.some.injEq, exists_eq_left']
  rw [← Array.all_toList, List.all_eq_true]
  refine forall_congr' fun e => forall_congr' fun he => ?_
  cases Region.binds .any e <;> simp
theorem getD_listed {j k : Nat} (hj : j < listed.size) : (listed.setIfInBounds j true).getD k false = if k = j then true else listed.getD k false := by
  simp only [Array.getD_eq_getD_getElem?, Array.getElem?_setIfInBounds]
  by_cases hk : k = j
  · subst hk; simp [hj]
  · rw [if_neg (fun e => hk e.symm), if_neg hk]
structure Now (ops : Array Oper) (p : List (Nat × List Nat)) (listed : Array Bool) (q j : Nat) (re : List Nat) : Prop where
  pos : p[q]? = some (j, re)
  un : listed.getD j false = false
  ed : ∀ e ∈ (opA ops j).after.toList, Region.binds .any e = true → listed.getD e.on false = true
  lt : j < ops.size
theorem Now.bef {q j : Nat} {re : List Nat} (N : Now ops p listed q j re) (hcl : Cl ops listed) {i : Nat} (hb : ((Region.before ops).getD j 0).testBit i = true) : listed.getD i false = true :=
  closed_before hcl j (opA ops j) (by simp [opA, N.lt]) N.ed hb
theorem Cl.bef (hcl : Cl ops listed) {i j : Nat} (hj : j < ops.size) (hl : listed.getD j false = true) (hb : ((Region.before ops).getD j 0).testBit i = true) : listed.getD i false = true :=
  closed_before hcl j ops[j] (by simp [hj]) (hcl j ops[j] hl (by simp [hj])) hb
variable {q j : Nat} {re : List Nat}
theorem Inv.looked (I : Inv P B0 κ ops is p E G V nt μ0 w0 a0 listed μ a w en) (T : Tr P X n κ is p E G V) (hc : cIs P nt ops ops.toList = some is) (hp : Plan ops p) (N : Now ops p listed q j re) {t : Nat} (ht : t ∈ looks ops (opA ops j)) :
    VR μ (E q t) (a.tmps.getD t undef) := by
  have hql : q < p.length := (List.getElem?_eq_some_iff.1 N.pos).1
  by_cases hit : ∃ (q' j' : Nat) (re' : List Nat), q' < q ∧ p[q']? = some (j', re') ∧ (opA ops j').dst = some t
  · obtain ⟨q', j', re', h1, h2, h3⟩ := hit
    rw [env_hit T hc hp h2 h3 q h1 (by omega)]
    have hb := (pair_ok (hp.pair q' q _ _ h1 h2 N.pos)).to t h3 ht
    exact I.res q' j' re' h2 (N.bef I.cl hb) t h3
  · rw [env_miss T hc q (by omega) fun q' j' re' h1 h2 h3 => hit ⟨q', j', re', h1, h2, h3⟩]
    refine I.old t fun q'' j'' re'' h1 h2 h3 => ?_
    rcases Nat.lt_trichotomy q'' q with hl | hl | hl
    · exact hit ⟨q'', j'', re'', hl, h1, h3⟩
    · subst hl; rw [N.pos] at h1; cases h1; rw [N.un] at h2; cases h2
    · have hb := (pair_ok (hp.pair q q'' _ _ hl N.pos h1)).fro t h3 ht
      have hjs : j'' < ops.size := by
        have hd : (opA ops j'').dst ≠ none := by rw [h3]; simp
        by_cases hh : j'' < ops.size
        · exact hh
        · exfalso; apply hd; simp [opA, hh]; rfl
      have := I.cl.bef hjs h2 hb
      rw [N.un] at this; cases this
theorem Inv.opds (I : Inv P B0 κ ops is p E G V nt μ0 w0 a0 listed μ a w en) (T : Tr P X n κ is p E G V) (hc : cIs P nt ops ops.toList = some is) (hp : Plan ops p) (N : Now ops p listed q j re) :
    opdR μ (E q) a.eval (opA ops j).op.operands.toList := by
  intro x hx y hy
  cases x with
  | tmp t =>
    cases hy
    refine I.looked T hc hp N ?_
    unfold looks
    exact List.mem_append.2 (.inr (List.mem_filterMap.2 ⟨.tmp t, hx, rfl⟩))
  | const v =>
    simp only [cOpd] at hy
    split at hy
    · rename_i hc; cases hy; exact const_VR hc
    · cases hy
  | global g => cases hy
  | func f => cases hy; exact .fn rfl rfl (by simp) (by simp)
theorem Inv.want (I : Inv P B0 κ ops is p E G V nt μ0 w0 a0 listed μ a w en) (T : Tr P X n κ is p E G V) (hc : cIs P nt ops ops.toList = some is) (hp : Plan ops p) (N : Now ops p listed q j re) {g : Option (Nat × Bool)}
    (hg : cGuard ops (opA ops j).guard = some g) : Region.wanted (opA ops j) (yielded ops a.tmps) = wanted (E q) g := by
  refine wanted_iff (μ := μ) hg fun t wn e => I.looked T hc hp N ?_
  unfold cGuard at hg
  split at hg
  · cases hg; cases e
  · rename_i j' wn' hog
    split at hg
    · rename_i d hd
      cases hg; cases e
      unfold looks
      rw [hog]
      exact List.mem_append.2 (.inl (by simp only [hd]; simp))
    · cases hg
theorem Inv.put (I : Inv P B0 κ ops is p E G V nt μ0 w0 a0 listed μ a w en) (hp : Plan ops p) (N : Now ops p listed q j re) {μ' : Mu} {cv : Value} (hlt : ∀ d, (opA ops j).dst = some d → d < nt) (hle : Mu.le μ μ')
    (hv : VR μ' ((V q).getD undef) cv) :
    (∀ (q' j' : Nat) (re' : List Nat), p[q']? = some (j', re') → (listed.setIfInBounds j true).getD j' false = true → ∀ d, (opA ops j').dst = some d → VR μ' ((V q').getD undef) ((a.put (opA ops j).dst cv).tmps.getD d undef)) ∧
      (∀ t, (∀ (q' j' : Nat) (re' : List Nat), p[q']? = some (j', re') → (listed.setIfInBounds j true).getD j' false = true → (opA ops j').dst ≠ some t) → VR μ' (E 0 t) ((a.put (opA ops j).dst cv).tmps.getD t undef)) ∧
      nt ≤ (a.put (opA ops j).dst cv).tmps.size ∧ (a.put (opA ops j).dst cv).defers = a0.defers := by
  have hjl : j < listed.size := by rw [I.sz]; exact N.lt
  have hput : ∀ t, (opA ops j).dst ≠ some t → (a.put (opA ops j).dst cv).tmps.getD t undef = a.tmps.getD t undef := by
    intro t hne
    cases hd : (opA ops j).dst with
    | none => rfl
    | some d =>
      rw [hd] at hne
      simp only [Act.put]
      rw [getD_set (Nat.lt_of_lt_of_le (hlt d hd) I.nt), if_neg (fun e => hne (by rw [e]))]
  refine ⟨fun q' j' re' h1 h2 d h3 => ?_, fun t ht => ?_, ?_, ?_⟩
  · by_cases hj : j' = j
    · subst hj
      have := pos_inj hp h1 N.pos
      subst this
      simp only [h3, Act.put]
      rw [getD_set (Nat.lt_of_lt_of_le (hlt d h3) I.nt), if_pos rfl]; exact hv
    · rw [getD_listed hjl, if_neg hj] at h2
      have hne : (opA ops j).dst ≠ some d := by
        have hqq : q' ≠ q := fun e => hj (by subst e; rw [N.pos] at h1; cases h1; rfl)
        rcases Nat.lt_or_gt_of_ne hqq with hl | hl
        · exact (pair_ok (hp.pair q' q _ _ hl h1 N.pos)).dst d h3
        · exact fun e => (pair_ok (hp.pair q q' _ _ hl N.pos h1)).dst d e h3
      rw [hput d hne]
      exact (I.res q' j' re' h1 h2 d h3).mono hle
  · rw [hput t (ht q j re N.pos (by rw [getD_listed hjl, if_pos rfl]))]
    refine (I.old t fun q' j' re' h1 h2 => ht q' j' re' h1 ?_).mono hle
    rw [getD_listed hjl]; split
    · rfl
    · exact h2
  · cases hd : (opA ops j).dst with
    | none => exact I.nt
    | some d => simp [Act.put]; exact I.nt
  · cases hd : (opA ops j).dst with
    | none => exact I.df
    | some d => exact I.df
theorem Cl.now (hcl : Cl ops listed) (N : Now ops p listed q j re) (hsz : listed.size = ops.size) : Cl ops (listed.setIfInBounds j true) := by
  have hjl : j < listed.size := by rw [hsz]; exact N.lt
  intro j' o hl ho e he hb
  rw [getD_listed hjl]
  split
  · rfl
  · rw [getD_listed hjl] at hl
    split at hl
    · rename_i hj
      subst hj
      have : opA ops j' = o := by simp [opA, Array.getD_eq_getD_getElem?, ho]
      exact N.ed e (by rw [this]; exact he) hb
    · exact hcl j' o hl ho e he hb
theorem Inv.calm (I : Inv P B0 κ ops is p E G V nt μ0 w0 a0 listed μ a w en) (hp : Plan ops p) (N : Now ops p listed q j re) {μ' : Mu} {w' : World} {cv : Value} (hlt : ∀ d, (opA ops j).dst = some d → d < nt)
    (hst : St P B0 κ μ' (G en) w') (hfr : Fr B0 κ.fl μ0 (G 0) w0 μ' (G en) w') (hle : Mu.le μ μ') (hun : μ' = μ ∨ ((G (q + 1)).size = (G q).size + 1 ∧ ∀ b, b ≠ (G q).size → μ b = .un → μ' b = .un))
    (hv : VR μ' ((V q).getD undef) cv) (hq : q < en) : Inv P B0 κ ops is p E G V nt μ0 w0 a0 (listed.setIfInBounds j true) μ' (a.put (opA ops j).dst cv) w' en := by
  have hjl : j < listed.size := by rw [I.sz]; exact N.lt
  obtain ⟨p1, p2, p3, p4⟩ := I.put (μ' := μ') (cv := cv) hp N hlt hle hv
  have hne : ∀ {j'}, (listed.setIfInBounds j true).getD j' false = false → listed.getD j' false = false ∧ j' ≠ j := by
    intro j' hl
    rw [getD_listed hjl] at hl
    split at hl
    · cases hl
    · rename_i hj; exact ⟨hl, hj⟩
  refine ⟨by simp; exact I.sz, I.cl.now N I.sz, I.enl, fun q' j' re' h1 h2 h3 => ?_, fun q' j' re' h1 h2 => ?_, hst, hfr, I.mono, p1, p2, fun q' j' re' i x mk h1 h2 h3 h4 h5 h6 => ?_, fun q' j' re' i v h1 h2 h3 h4 h5 h6 => ?_, p3, p4⟩
  · rw [getD_listed hjl]; split
    · rfl
    · exact I.dl q' j' re' h1 h2 h3
  · rw [getD_listed hjl, if_neg]
    · exact I.ul q' j' re' h1 h2
    · intro e; subst e; have := pos_inj hp h2 N.pos; omega
  · obtain ⟨h3a, h3b⟩ := hne h3
    obtain ⟨r1, r2, r3⟩ := I.new q' j' re' i x mk h1 h2 h3a h4 h5 h6
    refine ⟨?_, r2, r3⟩
    rcases hun with rfl | ⟨u1, u2⟩
    · exact r1
    · refine u2 _ ?_ r1
      have hqq : q' ≠ q := fun e => h3b (by subst e; rw [N.pos] at h2; cases h2; rfl)
      rcases Nat.lt_or_gt_of_ne hqq with hl | hl
      · have := I.mono (q' + 1) q (by omega) (by omega); omega
      · have := I.mono (q + 1) q' (by omega) (by omega); omega
  · exact I.rd q' j' re' i v h1 h2 (hne h3).1 h4 h5 h6
theorem Inv.deed (I : Inv P B0 κ ops is p E G V nt μ0 w0 a0 listed μ a w en) (T : Tr P X n κ is p E G V) (hc : cIs P nt ops ops.toList = some is) (hp : Plan ops p) (N : Now ops p listed en j re) {μ' : Mu} {w' : World} {cv : Value}
    (hlt : ∀ d, (opA ops j).dst = some d → d < nt) (hd : isD (opA ops j).op = true) (g : Go1 P B0 κ μ (G en) w μ' (G (en + 1)) w') (hv : VR μ' ((V en).getD undef) cv) :
    Inv P B0 κ ops is p E G V nt μ0 w0 a0 (listed.setIfInBounds j true) μ' (a.put (opA ops j).dst cv) w' (en + 1) := by
  have hjl : j < listed.size := by rw [I.sz]; exact N.lt
  obtain ⟨p1, p2, p3, p4⟩ := I.put (μ' := μ') (cv := cv) hp N hlt g.fr.le hv
  have hen : en < p.length := (List.getElem?_eq_some_iff.1 N.pos).1
  have hne : ∀ {j'}, (listed.setIfInBounds j true).getD j' false = false → listed.getD j' false = false ∧ j' ≠ j := by
    intro j' hl
    rw [getD_listed hjl] at hl
    split at hl
    · cases hl
    · rename_i hj; exact ⟨hl, hj⟩
  have hqne : ∀ {q' j' : Nat} {re' : List Nat}, p[q']? = some (j', re') → j' ≠ j → q' ≠ en := fun h2 hj e => hj (by subst e; rw [N.pos] at h2; cases h2; rfl)
  refine ⟨by simp; exact I.sz, I.cl.now N I.sz, hen, fun q' j' re' h1 h2 h3 => ?_, fun q' j' re' h1 h2 => ?_, g.st, I.fr.trans (Nat.le_refl _) g.fr, fun q' q'' h1 h2 => ?_, p1, p2, fun q' j' re' i x mk h1 h2 h3 h4 h5 h6 => ?_, fun q' j' re' i v h1 h2 h3 h4 h5 h6 => ?_, p3, p4⟩
  · rw [getD_listed hjl]; split
    · rfl
    · rename_i hj
      have := hqne h2 hj
      exact I.dl q' j' re' (by omega) h2 h3
  · rw [getD_listed hjl, if_neg]
    · exact I.ul q' j' re' (by omega) h2
    · intro e; subst e; have := pos_inj hp h2 N.pos; omega
  · by_cases hqe : q'' = en + 1
    · subst hqe
      by_cases hqe' : q' = en + 1
      · subst hqe'; exact Nat.le_refl _
      · exact Nat.le_trans (I.mono q' en (by omega) (Nat.le_refl _)) g.fr.size
    · exact I.mono q' q'' h1 (by omega)
  · obtain ⟨h3a, h3b⟩ := hne h3
    have := hqne h2 h3b
    obtain ⟨r1, r2, r3⟩ := I.new q' j' re' i x mk (by omega) h2 h3a h4 h5 h6
    obtain ⟨s1, s2⟩ := g.fr.un _ (Array.getElem?_eq_some_iff.1 r2).1 r1
    exact ⟨s2, s1.trans r2, r3⟩
  · obtain ⟨h3a, h3b⟩ := hne h3
    have := hqne h2 h3b
    have hr := I.rd q' j' re' i v (by omega) h2 h3a h4 h5 h6
    obtain ⟨i', t1, t2, t3, t4⟩ := at_pos T hc h2
    rw [h4] at t2; cases t2
    cases hR : isR (opA ops j').op with
    | false => rw [← aVal_noR (cOp_noR (cIns_inv t3).1 hR) (G en)]; exact hr
    | true =>
      rcases (pair_ok (hp.pair q' en _ _ (by omega) h2 N.pos)).re hd hR with hre | hre
      · exact T.still en j re N.pos q' j' re' v i (by omega) h2 h5 hre h4
      · have := N.bef I.cl hre
        rw [h3a] at this; cases this
end Go.AM
end

section
namespace Go.AM
variable {P : Program} {B0 : Nat × Nat} {κ : Ctx} {μ : Mu} {h : Heap} {w : World} {env : Env} {X : Tab} {n lo : Nat}
variable {ops : Array Oper} {is : List AIns} {p : List (Nat × List Nat)} {E : Nat → Env} {G : Nat → Heap} {V : Nat → Option Value} {nt : Nat}
variable {μ0 : Mu} {w0 : World} {a0 : Act} {listed : Array Bool} {a : Act} {en : Nat}
theorem Mk.fr {fl : Nat} {μ' : Mu} {h' : Heap} {w' : World} (g : Fr B0 fl μ h w μ' h' w') : ∀ {ds : List Deferred}, Mk lo μ w ds → Mk lo μ' w' ds
  | [], _ => trivial
  | d :: ds, hm => by
    obtain ⟨r, h1, h2, h3, h4, h5, h6⟩ := hm
    have hr := (Array.getElem?_eq_some_iff.1 h3).1
    obtain ⟨q1, q2⟩ := g.cun r hr h4
    exact ⟨r, h1, h2, q1.trans h3, q2, h5, Mk.fr g h6⟩
theorem Inv.last (I : Inv P B0 κ ops is p E G V nt μ0 w0 a0 listed μ a w en) (T : Tr P X n κ is p E G V) (hc : cIs P nt ops ops.toList = some is) (hp : Plan ops p) (hr : Region.ready .any ops listed = [])
    (hmk : Mk lo μ0 w0 a0.defers) (hlo : lo ≤ w0.heap.size) : Go1 P B0 κ μ0 (G 0) w0 μ (G p.length) w ∧ Fm lo nt μ (E p.length) a w := by
  have hall : ∀ (q j : Nat) (re : List Nat), p[q]? = some (j, re) → listed.getD j false = true := by
    intro q
    induction q using Nat.strongRecOn with
    | _ q ih =>
      intro j re hq
      obtain ⟨i, h1, h2, h3, h4⟩ := at_pos T hc hq
      have hj : j < ops.size := (Array.getElem?_eq_some_iff.1 h1).1
      cases hl : listed.getD j false with
      | true => rfl
      | false =>
        have hm : j ∈ Region.ready .any ops listed := by
          refine ready_mem.2 ⟨hj, ?_, _, h1, fun e he hb => ?_⟩
          · rw [Array.getD_eq_getD_getElem?] at hl ⊢
            have : listed[j]? = some (listed[j]'(by rw [I.sz]; exact hj)) := by simp [I.sz, hj]
            rw [this] at hl ⊢; exact hl
          · obtain ⟨q', y, g1, g2, g3⟩ := hp.ahead q _ hq e he hb
            have := ih q' g1 y.1 y.2 g2
            rw [← g3]; exact this
        rw [hr] at hm; cases hm
  have hen : en = p.length := by
    by_cases hl : en < p.length
    · obtain ⟨⟨j, re⟩, hj⟩ : ∃ x, p[en]? = some x := ⟨p[en], by simp [hl]⟩
      have h1 := hall en j re hj
      rw [I.ul en j re (Nat.le_refl _) hj] at h1; cases h1
    · have := I.enl; omega
  subst hen
  refine ⟨⟨I.st, I.fr⟩, ⟨fun t => ?_, I.nt, by rw [I.df]; exact hmk.fr I.fr, Nat.le_trans hlo I.fr.csize⟩⟩
  by_cases hit : ∃ (q j : Nat) (re : List Nat), q < p.length ∧ p[q]? = some (j, re) ∧ (opA ops j).dst = some t
  · obtain ⟨q, j, re, h1, h2, h3⟩ := hit
    rw [env_hit T hc hp h2 h3 p.length h1 (Nat.le_refl _)]
    exact I.res q j re h2 (hall q j re h2) t h3
  · rw [env_miss T hc p.length (Nat.le_refl _) fun q j re h1 h2 h3 => hit ⟨q, j, re, h1, h2, h3⟩]
    exact I.old t fun q j re h1 _ h3 => hit ⟨q, j, re, (List.getElem?_eq_some_iff.1 h1).1, h1, h3⟩
theorem count_set {l : Array Bool} {j : Nat} (hj : j < l.size) (hf : l.getD j false = false) : (l.setIfInBounds j true).toList.count false + 1 = l.toList.count false := by
  rw [Array.toList_setIfInBounds, List.count_set (by simpa using hj)]
  have hg : l.toList[j]'(by simpa using hj) = false := by
    rw [Array.getD_eq_getD_getElem?] at hf; simpa [hj] using hf
  have hpos : 0 < l.toList.count false := List.count_pos_iff.2 (by rw [← hg]; exact List.getElem_mem _)
  rw [hg, if_pos (by rfl), if_neg (by decide)]
  omega
theorem any_ok (TB : TabOK P X) (hV : VOK P X n) (T : Tr P X n κ is p E G V) (hc : cIs P nt ops ops.toList = some is) (hp : Plan ops p) (hmk : Mk lo μ0 w0 a0.defers) (hlo : lo ≤ w0.heap.size) {Q : Exit → Act → World → Prop} {ro : Option Nat} {m : Nat}
    (hcs : ∀ c ∈ κ.cs, c ≤ (G 0).size) (hfl : κ.fl ≤ (G 0).size) (hB : B0.1 ≤ (G 0).size)
    (K : ∀ μ' a' w', Go1 P B0 κ μ0 (G 0) w0 μ' (G p.length) w' → Fm lo nt μ' (E p.length) a' w' → Q .normal a' w') :
    ∀ (fuel : Nat) (listed : Array Bool) (μ : Mu) (a : Act) (w : World) (en : Nat), Inv P B0 κ ops is p E G V nt μ0 w0 a0 listed μ a w en → (∀ (j : Nat) (re : List Nat), p[en]? = some (j, re) → isD (opA ops j).op = true) → listed.toList.count false = fuel →
      wpAnyIn (FW ro) m P .any ops Q fuel listed a w
  | 0, listed, μ, a, w, en, I, hs, hf => by
    have hr : Region.ready .any ops listed = [] := by
      apply List.eq_nil_iff_forall_not_mem.2
      intro i hi
      obtain ⟨h1, h2, _⟩ := ready_mem.1 hi
      have hlt : i < listed.size := by rw [I.sz]; exact h1
      have : false ∈ listed.toList := by
        rw [Array.getD_eq_getD_getElem?] at h2
        simp [hlt] at h2
        rw [← h2]; simp
      rw [List.count_eq_zero] at hf
      exact hf this
    obtain ⟨g, F⟩ := I.last T hc hp hr hmk hlo
    exact ⟨hr, K μ a w g F⟩
  | fuel + 1, listed, μ, a, w, en, I, hs, hf => by
    refine ⟨fun hr => ?_, fun j hj => ?_⟩
    · obtain ⟨g, F⟩ := I.last T hc hp hr hmk hlo
      exact K μ a w g F
    · obtain ⟨h1, h2, o, h3, h4⟩ := ready_mem.1 hj
      obtain ⟨q, re, hq⟩ := hp.cov j h1
      obtain ⟨i, t1, t2, t3, t4⟩ := at_pos T hc hq
      rw [t1] at h3; cases h3
      have hjl : j < listed.size := by rw [I.sz]; exact h1
      have hun : listed.getD j false = false := by
        rw [Array.getD_eq_getD_getElem?] at h2 ⊢
        simp [hjl] at h2 ⊢; exact h2
      have N : Now ops p listed q j re := ⟨hq, hun, h4, h1⟩
      have hcnt : (listed.setIfInBounds j true).toList.count false = fuel := by have := count_set hjl hun; omega
      obtain ⟨hop, hdst, hgd, hlt⟩ := cIns_inv t3
      have hw := I.want T hc hp N hgd
      have hE := I.opds T hc hp N
      obtain ⟨henv, hcase⟩ := aIns_cases t4
      have hq' : q < en ∨ q = en := by
        rcases Nat.lt_trichotomy q en with hl | hl | hl
        · exact .inl hl
        · exact .inr hl
        · exfalso
          have hen : en < p.length := by have := (List.getElem?_eq_some_iff.1 hq).1; omega
          obtain ⟨⟨j1, re1⟩, hj1⟩ : ∃ x, p[en]? = some x := ⟨p[en], by simp [hen]⟩
          have hb := (pair_ok (hp.pair en q _ _ hl hj1 hq)).dop (hs j1 re1 hj1)
          have := N.bef I.cl hb
          rw [I.ul en j1 re1 (Nat.le_refl _) hj1] at this; cases this
      have next : ∀ (μ' : Mu) (a' : Act) (w' : World) (en' : Nat), Inv P B0 κ ops is p E G V nt μ0 w0 a0 (listed.setIfInBounds j true) μ' a' w' en' → wpAnyIn (FW ro) m P .any ops Q fuel (listed.setIfInBounds j true) a' w' := by
        intro μ' a' w' en' I'
        obtain ⟨en2, I2, hs2⟩ := Inv.onto T hc _ en' rfl I'
        exact any_ok TB hV T hc hp hmk hlo hcs hfl hB K fuel _ μ' a' w' en2 I2 hs2 hcnt
      unfold wpOpIn
      rw [t1]
      simp only [hw]
      have hsem : (opA ops j).semAt (FW ro).round a.eval = execOp a.eval (opA ops j) := by
        rw [show (FW ro).round = ro from rfl, Oper.semAt_eq]
        intro c hcd
        unfold cOp at hop; rw [hcd] at hop; cases hop
      rcases hcase with ⟨hwf, hv, hg⟩ | ⟨hwt, v, hv, hao⟩
      · rw [hwf]
        simp only [Bool.false_eq_true, if_false]
        refine ⟨fun _ _ => trivial, ?_⟩
        have hvr : VR μ ((V q).getD undef) undef := by rw [hv]; exact undef_VR
        rcases hq' with hl | hl
        · exact next _ _ _ _ (I.calm hp N hlt I.st I.fr (.refl μ) (.inl rfl) hvr hl)
        · subst hl
          exact next _ _ _ _ (I.deed T hc hp N hlt (hs j re hq) (by rw [hg]; exact .refl I.st) hvr)
      · rw [hwt]
        simp only [if_true]
        refine ⟨fun _ _ => trivial, ?_⟩
        rw [hsem]
        rcases hq' with hl | hl
        · have hd : isD (opA ops j).op = false := by
            cases hd : isD (opA ops j).op with
            | false => rfl
            | true => have := I.dl q j re hl hq hd; rw [hun] at this; cases this
          rw [aOp_pure (cOp_noD hop hd)] at hao
          unfold aPure at hao
          split at hao
          · rename_i x mk hn
            simp only [Option.some.injEq, Prod.mk.injEq] at hao
            obtain ⟨r1, r2, r3⟩ := I.new q j re i x mk hl hq hun t2 hwt hn
            obtain ⟨ob, nn, k, cv, hrun, hO⟩ := new_ok (P := P) (w := w) hop hn hE
            have hal := hO (μ.set (G q).size (.at w.heap.size 0 nn k)) (G q).size (Mu.le_set_un r1) (Mu.set_same _ _ _)
            have hge : (G 0).size ≤ (G q).size := I.mono 0 q (by omega) (by omega)
            rw [hrun]
            have hst' : St P B0 κ (μ.set (G q).size (.at w.heap.size 0 nn k)) (G en) (w.alloc ob) := by
              refine ⟨I.st.hr.place r2 r1 (by omega) (hal.1 _), I.st.fl, I.st.fle, I.st.cle, fun c hc' b hb hm y hy => ?_⟩
              have := hcs c hc'
              rw [Mu.set_ne _ _ (by omega)] at hm
              exact I.st.ceil c hc' b hb hm y hy
            have hget : ∀ c, c < w.heap.size → (w.alloc ob).heap[c]? = w.heap[c]? := by
              intro c hc'; show (w.heap.push ob)[c]? = _; rw [Array.getElem?_push, if_neg (by omega)]
            have hsz : (w.alloc ob).heap.size = w.heap.size + 1 := by show (w.heap.push ob).size = _; simp
            have hfr' : Fr B0 κ.fl μ0 (G 0) w0 (μ.set (G q).size (.at w.heap.size 0 nn k)) (G en) (w.alloc ob) := by
              have hf := I.fr
              refine ⟨hf.le.trans (Mu.le_set_un r1), hf.size, fun b hb e => ?_, fun b hb => ?_, by rw [hsz]; have := hf.csize; omega, fun c hc' e => ?_, fun c hc' => ?_, hf.os, hf.tape, hf.output⟩
              · rw [Mu.set_ne _ _ (by omega)]; exact hf.un b hb e
              · rw [Mu.set_ne _ _ (by omega)]; exact hf.low b hb
              · obtain ⟨q1, q2⟩ := hf.cun c hc' e
                have := hf.csize
                refine ⟨by rw [hget c (by omega)]; exact q1, fun b d n' k' e' => ?_⟩
                by_cases hbb : b = (G q).size
                · subst hbb; rw [Mu.set_same] at e'; cases e'; omega
                · rw [Mu.set_ne _ _ hbb] at e'; exact q2 b d n' k' e'
              · have := I.st.hr.base.2
                rw [hget c (by omega)]; exact hf.clow c hc'
            refine next _ _ _ _ (I.calm hp N hlt hst' hfr' (Mu.le_set_un r1) (.inr ⟨r3, fun b hb e => by rw [Mu.set_ne _ _ hb]; exact e⟩) ?_ hl)
            rw [hv]; simp only [Option.getD_some]; rw [← hao.1]; exact hal.2
          · rename_i hn
            have hrd := I.rd q j re i v hl hq hun t2 hv hn
            obtain ⟨cv, hrun, hr⟩ := val_ok (P := P) (w := w) hop hrd I.st.hr hE
            rw [hrun]
            exact next _ _ _ _ (I.calm hp N hlt I.st I.fr (.refl μ) (.inl rfl) (by rw [hv]; exact hr) hl)
        · subst hl
          refine op_ok TB hV hop hao I.st hE fun μ' w' cv g hr => ?_
          exact next _ _ _ _ (I.deed T hc hp N hlt (hs j re hq) g (by rw [hv]; exact hr))
theorem dok (TB : TabOK P X) (hV : VOK P X n) : DOK P X n := by
  intro B0 lo κ nt ops is p ro env h env' h' μ w a Q m e hc hpl S F K
  obtain ⟨E, G, V, e0, g0, eL, gL, T⟩ := trace_ok (P := P) e
  have hp := plan_ok hpl
  have I0 : Inv P B0 κ ops is p E G V nt μ w a (Array.replicate ops.size false) μ a w 0 := by
    have hno : ∀ j, (Array.replicate ops.size false).getD j false = false := by
      intro j; simp only [Array.getD_eq_getD_getElem?, Array.getElem?_replicate]; split <;> rfl
    refine ⟨by simp, fun j o hl => (by rw [hno] at hl; cases hl), Nat.zero_le _, fun q j re hq => (by omega), fun q j re _ _ => hno j, by rw [g0]; exact S, by rw [g0]; exact .refl .., fun q q' h1 h2 => ?_, fun q j re _ hl => (by rw [hno] at hl; cases hl),
      fun t _ => by rw [e0]; exact F.env t, fun q j re i x mk hq => (by omega), fun q j re i v hq => (by omega), F.nt, rfl⟩
    have : q = 0 := by omega
    have : q' = 0 := by omega
    subst_vars; exact Nat.le_refl _
  obtain ⟨en, I, hs⟩ := Inv.onto T hc _ 0 rfl I0
  refine any_ok TB hV T hc hp F.mks F.lo (by rw [g0]; exact S.cle) (by rw [g0]; exact S.fle) (by rw [g0]; exact S.hr.base.1) (fun μ' a' w' g F' => ?_) ops.size _ μ a w en I hs (by simp)
  rw [g0, gL] at g
  rw [eL] at F'
  exact K μ' a' w' g F'
theorem all_ok (TB : TabOK P X) : ∀ n, (∀ k, k ≤ n → EOK P X k) ∧ VOK P X n ∧ FOK P X n
  | 0 => by
    refine ⟨fun k hk => ?_, ?_, ?_⟩
    · have : k = 0 := by omega
      subst this
      intro B0 lo κ c ac nt inR ro env h ex env' h' μ w a Q m e
      simp [exec] at e
    · intro B0 κ f args h v h' μ w cf cargs e
      simp [callV] at e
    · intro B0 κ g args h v h' μ w cargs e
      simp [callF] at e
  | n + 1 => by
    obtain ⟨hE, hV, hF⟩ := all_ok TB n
    have hE1 := eok_step TB hE hV hF (dok TB hV)
    refine ⟨fun k hk => ?_, vok_step TB hF (hE n (Nat.le_refl n)), fok_step TB (hE n (Nat.le_refl n))⟩
    by_cases hkn : k ≤ n
    · exact hE k hkn
    · have : k = n + 1 := by omega
      subst this; exact hE1
theorem call_ok (TB : TabOK P X) {g : FuncId} {args cargs : List Value} {v : Value} {h' : Heap} (e : callF X n κ g args h = some (v, h')) (S : St P B0 κ μ h w) (hR : VRs μ args cargs) :
    Calls P g cargs.toArray w (CallOK P B0 κ μ h w v h') := by
  have h1 := (all_ok TB n).2.2 B0 κ g args h v h' μ w cargs e S hR 0
  exact h1.calls fun k d hd => (by cases hd)
end Go.AM
end
