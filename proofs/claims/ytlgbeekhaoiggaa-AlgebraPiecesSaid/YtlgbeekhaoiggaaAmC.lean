import Derived.Test.YtlgbeekhaoiggaaAmB
import Derived.Laws.AppendOwn
import Derived.RangeFuncRecord
import Derived.RangeFuncLeaves
import Derived.OrdersIn
set_option linter.all false
section
namespace Go.AM
variable {P : Program} {B0 : Nat × Nat} {κ : Ctx} {μ : Mu} {h : Heap} {w : World} {env : Env} {ρ : Operand → Value}
theorem one_VR {a c : Value} (hr : VR μ a c) (h1 : one a = true) : c.oneCell' = true := by
  cases hr <;> first | rfl | (simp [one] at h1; done)
theorem setCell_heap {c o : Nat} {cc : Array Value} {t : TypeId} {fz : Nat × Nat} {v : Value} (hc : w.heap[c]? = some (.cells cc t fz)) :
    (w.setCell ⟨c, o, none⟩ v).heap = w.heap.setIfInBounds c (.cells (cc.setIfInBounds o v) t fz) := by
  have hlt := (Array.getElem?_eq_some_iff.1 hc).1
  have hget := (Array.getElem?_eq_some_iff.1 hc).2
  apply Array.ext_getElem?
  intro i
  simp only [World.setCell, Array.getElem?_modify, Array.getElem?_setIfInBounds]
  by_cases hi : c = i
  · subst hi
    simp [hlt, hget]
  · simp [hi]
theorem run_storeAt {c o : Nat} {t : TypeId} {fz : Nat × Nat} (hfz : fz = (0, 0)) : ∀ (us : List Value) (i : Nat) (cc : Array Value) (w : World), w.heap[c]? = some (.cells cc t fz) →
    o + i + us.length ≤ cc.size → (∀ u ∈ us, u.oneCell' = true) →
    ∃ w' cc', (storeCells ⟨c, o, none⟩ us i).run P w = .ok () w' ∧ w'.heap = w.heap.setIfInBounds c (.cells cc' t fz) ∧ putArr cc (o + i) us cc' ∧ w'.os = w.os ∧ w'.tape = w.tape ∧ w'.output = w.output ∧ w.drawn ≤ w'.drawn
  | [], i, cc, w, hc, hl, h1 => by
    refine ⟨w, cc, rfl, ?_, ⟨rfl, fun j => by simp; omega⟩, rfl, rfl, rfl, Nat.le_refl _⟩
    have hlt := (Array.getElem?_eq_some_iff.1 hc).1
    apply Array.ext_getElem?
    intro j
    rw [Array.getElem?_setIfInBounds]
    by_cases hj : c = j
    · subst hj; rw [if_pos rfl, if_pos hlt]; exact hc
    · rw [if_neg hj]
  | u :: us, i, cc, w, hc, hl, h1 => by
    simp only [List.length_cons] at hl
    have hcell : w.cell? ⟨c, o + i, none⟩ = cc[o + i]? := by simp [World.cell?, hc]
    have hlt : o + i < cc.size := by omega
    have hcell' : w.cell? ⟨c, o + i, none⟩ = some cc[o + i] := by rw [hcell]; simp [hlt]
    have hfr : w.frozen? ⟨c, o + i, none⟩ = false := by subst hfz; simp [World.frozen?, hc]
    have hst : (store (Addr.add ⟨c, o, none⟩ i) u).run P w = .ok () (w.setCell ⟨c, o + i, none⟩ u) := by
      rw [add_off]
      rw [run_store P w _ u .plain (h1 u (by simp)), hcell']
      simp only [hfr, Bool.false_eq_true, if_false]
    have hh := setCell_heap (o := o + i) (v := u) hc
    have hcl := (Array.getElem?_eq_some_iff.1 hc).1
    obtain ⟨w', cc', r1, r2, r3, r4, r5, r6⟩ := run_storeAt (c := c) (o := o) (t := t) hfz us (i + 1) (cc.setIfInBounds (o + i) u) (w.setCell ⟨c, o + i, none⟩ u) (by rw [hh]; simp [hcl]) (by rw [Array.size_setIfInBounds]; omega) (fun u' hu' => h1 u' (by simp [hu']))
    refine ⟨w', cc', ?_, ?_, ?_, r4, r5, r6⟩
    · simp only [storeCells, Sem.run_bind]
      rw [hst]
      exact r1
    · rw [r2, hh]
      apply Array.ext_getElem?
      intro j
      simp only [Array.getElem?_setIfInBounds, Array.size_setIfInBounds]
      by_cases hj : c = j
      · simp [hj]
      · simp [hj]
    · refine ⟨by rw [r3.1]; simp, fun j => ?_⟩
      rw [r3.2 j]
      simp only [List.length_cons]
      by_cases hj : j = o + i
      · subst hj
        rw [if_neg (by omega), if_pos (by omega), Array.getElem?_setIfInBounds, if_pos rfl, if_pos hlt]
        simp
      · by_cases hj2 : o + (i + 1) ≤ j ∧ j < o + (i + 1) + us.length
        · rw [if_pos hj2, if_pos (by omega), show j - (o + i) = (j - (o + (i + 1))) + 1 by omega, List.getElem?_cons_succ]
        · rw [if_neg hj2, if_neg (by omega), Array.getElem?_setIfInBounds, if_neg (by omega)]
theorem wr_ok {b c d n k off : Nat} {vs us : List Value} {h' : Heap} (S : St P B0 κ μ h w) (e : wr κ h b off vs = some h') (hb : μ b = .at c d n k) (hv : VRs μ vs us) :
    ∃ w', (storeCells ⟨c, off + d, none⟩ us).run P w = .ok () w' ∧ Go1 P B0 κ μ h w μ h' w' := by
  unfold wr at e
  split at e
  · rename_i l t hl
    split at e
    · rename_i hcond
      simp only [Bool.and_eq_true, List.all_eq_true, decide_eq_true_eq] at hcond
      obtain ⟨⟨hm, h1⟩, hoff⟩ := hcond
      cases e
      obtain ⟨cc, t', fz, q1, q2, q3, ⟨q4, q5⟩, q6⟩ := S.hr.cells hb hl
      have hfl : κ.fl ≤ b := by
        simp only [mayPut, Bool.and_eq_true, decide_eq_true_eq] at hm; exact hm.1
      have hB : ¬ b < B0.1 := by have := S.fl; omega
      have hfz : fz = (0, 0) := (q4.resolve_left hB).1
      have hlen := hv.1
      obtain ⟨w', cc', r1, r2, r3, r4, r5, r6⟩ := run_storeAt (P := P) (o := off + d) hfz us 0 cc w q1 (by omega) (fun u hu => by
        obtain ⟨i, hi⟩ := List.mem_iff_getElem?.1 hu
        have hi' : i < vs.length := by have := (List.getElem?_eq_some_iff.1 hi).1; omega
        exact one_VR (hv.2 i vs[i] u (by simp [hi']) hi) (h1 _ (List.getElem_mem _)))
      exact ⟨w', r1, S.write hb hl q1 hv hoff hm (by simpa using r3) r2 r4 r5 r6⟩
    · cases e
  · cases e
def DV (P : Program) (B0 : Nat × Nat) (κ : Ctx) (μ : Mu) (h : Heap) (w : World) (s : Sem Next) (v : Value) (h' : Heap) : Prop :=
  ∃ μ' w', Go1 P B0 κ μ h w μ' h' w' ∧ ((∃ cv, s.run P w = .ok (.value cv) w' ∧ VR μ' v cv) ∨ (s.run P w = .ok .skip w' ∧ v = undef))
theorem undef_VR : VR μ undef undef := .tuple rfl (by simp)
end Go.AM
end

section
namespace Go.AM
variable {P : Program} {B0 : Nat × Nat} {κ : Ctx} {μ : Mu} {h : Heap} {w : World} {env : Env} {ρ : Operand → Value}
theorem Mu.le_kill {b c d n k : Nat} (hb : μ b = .at c d n k) : Mu.le μ (μ.set b .dead) := by
  intro q
  by_cases hq : q = b
  · subst hq; rw [Mu.set_same]; exact ⟨fun _ _ _ _ _ => .inr rfl, fun _ => rfl⟩
  · rw [Mu.set_ne _ _ hq]; exact ⟨fun _ _ _ _ e => .inl e, fun e => e⟩
theorem St.kill {b c d n k : Nat} (S : St P B0 κ μ h w) (hb : μ b = .at c d n k) (hfl : κ.fl ≤ b) : Go1 P B0 κ μ h w (μ.set b .dead) (h.setIfInBounds b .dead) w := by
  have hlt := S.hr.lt hb
  have hle := Mu.le_kill hb
  refine ⟨⟨⟨fun y ey => ?_, fun y ey => ?_, fun y c1 d1 n1 k1 ey => ?_, fun y y' c1 d1 n1 k1 d2 n2 k2 hc0 e1 e2 => ?_, fun y c1 d1 n1 k1 ey hy => ?_, ?_⟩, S.fl, by simp; exact S.fle, fun q hq => by simp; exact S.cle q hq, fun q hq y hy hm x hx => ?_⟩, ?_⟩
  · by_cases hy : y = b
    · subst hy; simpa using hlt
    · rw [Mu.set_ne _ _ hy] at ey; simpa using S.hr.dom y ey
  · by_cases hy : y = b
    · subst hy; simp [hlt]
    · rw [Mu.set_ne _ _ hy] at ey
      rw [Array.getElem?_setIfInBounds, if_neg (by omega)]; exact S.hr.dead y ey
  · by_cases hy : y = b
    · subst hy; rw [Mu.set_same] at ey; cases ey
    · rw [Mu.set_ne _ _ hy] at ey
      obtain ⟨x, o, h1, h2, h3⟩ := S.hr.obj y c1 d1 n1 k1 ey
      exact ⟨x, o, by rw [Array.getElem?_setIfInBounds, if_neg (by omega)]; exact h1, h2, h3.within fun v u r => r.mono hle⟩
  · have hy : y ≠ b := by intro e; subst e; rw [Mu.set_same] at e1; cases e1
    have hy' : y' ≠ b := by intro e; subst e; rw [Mu.set_same] at e2; cases e2
    rw [Mu.set_ne _ _ hy] at e1; rw [Mu.set_ne _ _ hy'] at e2
    exact S.hr.inj _ _ _ _ _ _ _ _ _ hc0 e1 e2
  · have hy' : y ≠ b := by intro e; subst e; rw [Mu.set_same] at ey; cases ey
    rw [Mu.set_ne _ _ hy'] at ey; exact S.hr.lowc _ _ _ _ _ ey hy
  · exact ⟨by simp; exact S.hr.base.1, S.hr.base.2⟩
  · by_cases hyb : b = y
    · subst hyb
      simp [hlt] at hx; subst hx; trivial
    · rw [Array.getElem?_setIfInBounds, if_neg hyb] at hx
      rw [Mu.set_ne _ _ (by omega)] at hm
      exact S.ceil q hq y hy hm x hx
  · refine ⟨hle, by simp, fun y hy ey => ?_, fun y hy => ?_, Nat.le_refl _, fun q hq e => ⟨rfl, fun y d' n' k' e' => ?_⟩, fun _ _ => rfl, rfl, rfl, ⟨rfl, Nat.le_refl _⟩⟩
    · have hyb : y ≠ b := by intro e; subst e; rw [hb] at ey; cases ey
      rw [Mu.set_ne _ _ hyb, Array.getElem?_setIfInBounds, if_neg (by omega)]; exact ⟨rfl, ey⟩
    · have hyb : y ≠ b := by omega
      rw [Mu.set_ne _ _ hyb, Array.getElem?_setIfInBounds, if_neg (by omega)]; exact ⟨rfl, rfl⟩
    · have hyb : y ≠ b := by intro e; subst e; rw [Mu.set_same] at e'; cases e'
      rw [Mu.set_ne _ _ hyb] at e'; exact e y d' n' k' e'
theorem St.regrow {b c d n k d' n' k' : Nat} {l : List Value} {e e' : TypeId} {cc cc' : Array Value} {fz : Nat × Nat} {w' : World} (S : St P B0 κ μ h w) (hb : μ b = .at c d n k) (hfl : κ.fl ≤ b)
    (hc : w.heap[c]? = some (.cells cc e' fz)) (hw : w'.heap = w.heap.setIfInBounds c (.cells cc' e' fz))
    (hO : OR P ((μ.set b .dead).set h.size (.at c d' n' k')) (h.size < B0.1) (.cells l e) (.cells cc' e' fz) d' n' k')
    (h1 : w'.os = w.os) (h2 : w'.tape = w.tape) (h3 : w'.output = w.output ∧ w.drawn ≤ w'.drawn) :
    Go1 P B0 κ μ h w ((μ.set b .dead).set h.size (.at c d' n' k')) ((h.setIfInBounds b .dead).push (.cells l e)) w' := by
  have hlt := S.hr.lt hb
  have hcl := S.hr.clt hb
  have hB : B0.1 ≤ b := Nat.le_trans S.fl hfl
  have hBc := S.hr.lowc b c d n k hb hB
  have hK := S.kill hb hfl
  have hu := hK.st.hr.un_size
  simp only [Array.size_setIfInBounds] at hu
  have hle : Mu.le (μ.set b .dead) ((μ.set b .dead).set h.size (.at c d' n' k')) := Mu.le_set_un hu
  have hne : ∀ y, y < h.size → y ≠ h.size := fun y hy => by omega
  -- who lies in c now
  have hno : ∀ y d1 n1 k1, (μ.set b .dead) y ≠ .at c d1 n1 k1 := by
    intro y d1 n1 k1 ey
    have hyb : y ≠ b := by intro e; subst e; rw [Mu.set_same] at ey; cases ey
    rw [Mu.set_ne _ _ hyb] at ey
    exact hyb (S.hr.inj _ _ _ _ _ _ _ _ _ hBc ey hb)
  refine ⟨⟨⟨fun y ey => ?_, fun y ey => ?_, fun y c1 d1 n1 k1 ey => ?_, fun y y' c1 d1 n1 k1 d2 n2 k2 hc0 e1 e2 => ?_, fun y c1 d1 n1 k1 ey hy => ?_, ?_⟩, S.fl, by simp; have := S.fle; omega, fun q hq => by simp; have := S.cle q hq; omega, fun q hq y hy hm x hx => ?_⟩, ?_⟩
  · by_cases hy : y = h.size
    · subst hy; simp
    · rw [Mu.set_ne _ _ hy] at ey; have := hK.st.hr.dom y ey; simp at this ⊢; omega
  · by_cases hy : y = h.size
    · subst hy; rw [Mu.set_same] at ey; cases ey
    · rw [Mu.set_ne _ _ hy] at ey
      have h4 := hK.st.hr.dead y ey
      have h5 := (Array.getElem?_eq_some_iff.1 h4).1
      rw [Array.getElem?_push_lt h5, ← Array.getElem?_eq_getElem]; exact h4
  · by_cases hy : y = h.size
    · subst hy
      rw [Mu.set_same] at ey; cases ey
      refine ⟨_, _, by rw [Array.getElem?_push, if_pos (by simp)], by rw [hw]; simp [hcl], hO⟩
    · rw [Mu.set_ne _ _ hy] at ey
      obtain ⟨x, o, q1, q2, q3⟩ := hK.st.hr.obj y c1 d1 n1 k1 ey
      have q4 := (Array.getElem?_eq_some_iff.1 q1).1
      refine ⟨x, o, by rw [Array.getElem?_push_lt q4, ← Array.getElem?_eq_getElem]; exact q1, ?_, q3.within fun v u r => r.mono hle⟩
      rw [hw, Array.getElem?_setIfInBounds, if_neg ?_]
      · exact q2
      · intro hcc; subst hcc; exact hno _ _ _ _ ey
  · by_cases hy : y = h.size
    · by_cases hy' : y' = h.size
      · omega
      · subst hy; rw [Mu.set_same] at e1; cases e1; rw [Mu.set_ne _ _ hy'] at e2; exact absurd e2 (hno _ _ _ _)
    · by_cases hy' : y' = h.size
      · subst hy'; rw [Mu.set_same] at e2; cases e2; rw [Mu.set_ne _ _ hy] at e1; exact absurd e1 (hno _ _ _ _)
      · rw [Mu.set_ne _ _ hy] at e1; rw [Mu.set_ne _ _ hy'] at e2; exact hK.st.hr.inj _ _ _ _ _ _ _ _ _ hc0 e1 e2
  · by_cases hy' : y = h.size
    · subst hy'; rw [Mu.set_same] at ey; cases ey; exact hBc
    · rw [Mu.set_ne _ _ hy'] at ey; exact hK.st.hr.lowc _ _ _ _ _ ey hy
  · exact ⟨by simp; have := S.hr.base.1; omega, by rw [hw]; simp; exact S.hr.base.2⟩
  · have h4 := S.cle q hq
    rw [Mu.set_ne _ _ (by omega)] at hm
    rw [Array.getElem?_push_lt (by simp; omega), ← Array.getElem?_eq_getElem] at hx
    exact hK.st.ceil q hq y hy hm x hx
  · refine ⟨hK.fr.le.trans hle, by simp, fun y hy ey => ?_, fun y hy => ?_, by rw [hw]; simp, fun q hq e => ?_, fun q hq => ?_, h1, h2, h3⟩
    · obtain ⟨q1, q2⟩ := hK.fr.un y hy ey
      rw [Mu.set_ne _ _ (by omega), Array.getElem?_push_lt (by simp; omega), ← Array.getElem?_eq_getElem]; exact ⟨q1, q2⟩
    · obtain ⟨q1, q2⟩ := hK.fr.low y hy
      have := S.fle
      rw [Mu.set_ne _ _ (by omega), Array.getElem?_push_lt (by simp; omega), ← Array.getElem?_eq_getElem]; exact ⟨q1, q2⟩
    · have hqc : c ≠ q := by intro e'; subst e'; exact e b d n k hb
      refine ⟨by rw [hw, Array.getElem?_setIfInBounds, if_neg hqc], fun y d1 n1 k1 e' => ?_⟩
      by_cases hy : y = h.size
      · subst hy; rw [Mu.set_same] at e'; cases e'; exact hqc rfl
      · rw [Mu.set_ne _ _ hy] at e'; exact (hK.fr.cun q hq e).2 y d1 n1 k1 e'
    · rw [hw, Array.getElem?_setIfInBounds, if_neg (by omega)]
theorem St.putObj {b c d n k : Nat} {x : AObj} {o : Obj} {w' : World} (S : St P B0 κ μ h w) (hb : μ b = .at c d n k) (hfl : κ.fl ≤ b) (hw : w'.heap = w.heap.setIfInBounds c o)
    (hO : OR P μ (b < B0.1) x o d n k) (hc : ∀ q ∈ κ.cs, b < q → oBelow q x) (h1 : w'.os = w.os) (h2 : w'.tape = w.tape) (h3 : w'.output = w.output ∧ w.drawn ≤ w'.drawn) :
    Go1 P B0 κ μ h w μ (h.setIfInBounds b x) w' := by
  have hbl := S.hr.lt hb
  have hcl := S.hr.clt hb
  have hB : B0.1 ≤ b := Nat.le_trans S.fl hfl
  have hBc := S.hr.lowc b c d n k hb hB
  refine ⟨⟨⟨fun y ey => by simp; exact S.hr.dom y ey, fun y ey => ?_, fun y c1 d1 n1 k1 ey => ?_, S.hr.inj, S.hr.lowc, ?_⟩, S.fl, by simp; exact S.fle, fun q hq => by simp; exact S.cle q hq, fun q hq y hy hmy z hz => ?_⟩, ?_⟩
  · rw [Array.getElem?_setIfInBounds]
    by_cases hyb : b = y
    · subst hyb; rw [hb] at ey; cases ey
    · rw [if_neg hyb]; exact S.hr.dead y ey
  · by_cases hyb : b = y
    · subst hyb
      rw [hb] at ey; cases ey
      exact ⟨_, _, by simp [hbl], by rw [hw]; simp [hcl], hO⟩
    · obtain ⟨x', o', hx, ho, hr⟩ := S.hr.obj y c1 d1 n1 k1 ey
      refine ⟨x', o', by rw [Array.getElem?_setIfInBounds, if_neg hyb]; exact hx, ?_, hr⟩
      rw [hw, Array.getElem?_setIfInBounds, if_neg ?_]
      · exact ho
      · intro hcc; subst hcc; exact hyb (S.hr.inj _ _ _ _ _ _ _ _ _ hBc hb ey)
  · exact ⟨by simp; exact S.hr.base.1, by rw [hw]; simp; exact S.hr.base.2⟩
  · rw [Array.getElem?_setIfInBounds] at hz
    by_cases hyb : b = y
    · subst hyb
      rw [if_pos rfl, if_pos hbl] at hz
      cases hz
      exact hc q hq hy
    · rw [if_neg hyb] at hz; exact S.ceil q hq y hy hmy z hz
  · refine ⟨.refl μ, by simp, fun y hy ey => ⟨?_, ey⟩, fun y hy => ⟨?_, rfl⟩, by rw [hw]; simp, fun q hq e => ⟨?_, e⟩, fun q hq => ?_, h1, h2, h3⟩
    · rw [Array.getElem?_setIfInBounds, if_neg]; intro hyb; subst hyb; rw [hb] at ey; cases ey
    · rw [Array.getElem?_setIfInBounds, if_neg]; omega
    · rw [hw, Array.getElem?_setIfInBounds, if_neg]; intro hcq; subst hcq; exact e b d n k hb
    · rw [hw, Array.getElem?_setIfInBounds, if_neg]; omega
end Go.AM
end

section
namespace Go.AM
variable {P : Program} {B0 : Nat × Nat} {κ : Ctx} {μ : Mu} {h : Heap} {w : World} {env : Env} {ρ : Operand → Value}
theorem wr_live {b off : Nat} {vs : List Value} {h' : Heap} (e : wr κ h b off vs = some h') : ∃ l t, h[b]? = some (.cells l t) := by
  unfold wr at e
  split at e
  · rename_i l t hl; exact ⟨l, t, hl⟩
  · cases e
theorem store_ok {o : Oper} {t : TypeId} {a x : Operand} {n : Nat} {x' : Opd} {p : Addr} {h' : Heap} (hop : o.op = .store t a x) (S : St P B0 κ μ h w) (hn : tySize P t = some n)
    (ha : VR μ (.pointer (some p)) (ρ a)) (hx : VR μ (x'.val env) (ρ x)) (hs : p.spot = none) (hz : (x'.val env).cells.size = n)
    (e : wr κ h p.block p.off (x'.val env).cells.toList = some h') : DV P B0 κ μ h w (execOp ρ o) undef h' := by
  have he : execOp ρ o = (do Instr.storeAt t (ρ a) (ρ x); pure .skip) := by unfold execOp; rw [hop]
  rw [he]
  obtain ⟨l, t', hl⟩ := wr_live e
  generalize ρ a = ca at ha ⊢
  cases ha with
  | ptr hb =>
    have hv := VR_cells hx
    obtain ⟨w', r1, r2⟩ := wr_ok S e hb hv
    have hcs : (ρ x).cells.size = n := by have := hv.1; simp at this; omega
    refine ⟨μ, w', r2, .inr ⟨?_, rfl⟩⟩
    simp only [Instr.storeAt, Instr.sureAddr, storeVar, Sem.run_bind, Sem.run_pure, Result.andThen_ok, run_size hn, ne_eq, hcs, not_true_eq_false, if_false]
    rw [r1]; rfl
  | ptrDead hb => rw [S.hr.dead _ hb] at hl; cases hl
theorem src_ok {k m : Nat} {x cx : Value} {l : List Value} (H : HR P B0 μ h w) (hr : VR μ x cx) (e : srcCells h k x = some (m, l)) :
    (Builtin.lenOf cx).run P w = .ok m w ∧ ∃ us : List Value, VRs μ l us ∧ l.length = m * k ∧ ∀ w' : World, w'.heap = w.heap → ∀ n, n ≤ m → (Builtin.firstCells k n cx).run P w' = .ok (us.take (n * k)).toArray w' := by
  cases hr with
  | slNil =>
    simp only [srcCells] at e; cases e
    refine ⟨rfl, [], .nil, by simp, fun w' hw' n hn => by simp [Builtin.firstCells]⟩
  | string s =>
    simp only [srcCells] at e
    split at e
    · rename_i hk; subst hk
      cases e
      refine ⟨rfl, s.data.toList.map fun b => .int .u8 b.toNat, ⟨rfl, fun i a b ha hb => ?_⟩, by simp, fun w' hw' n hn => ?_⟩
      · rw [ha] at hb; cases hb
        simp only [List.getElem?_map, Option.map_eq_some_iff] at ha
        obtain ⟨q, _, rfl⟩ := ha
        exact .int _ _
      · simp only [Builtin.firstCells, Sem.run_pure, Nat.mul_one]
        congr 1
        apply Array.ext'
        simp only [Array.toList_map, List.map_take]
        have : (s.extract 0 n).data.toList = s.data.toList.take n := by
          rw [ByteArray.data_extract]; simp
        rw [this, List.map_take]
    · cases e
  | @sl b o len cap c d nn kk o' cap' hb hl hc ho hr =>
    have hr0 : VR μ (.slice (some ⟨b, o, none⟩) len cap) (.slice (some ⟨c, o', none⟩) len cap') := .sl hb hl hc ho hr
    obtain ⟨rfl, p, cap'', us, hx, hlen, hrs, hrun⟩ := srcCells_ok H hr0 e
    cases hx
    refine ⟨rfl, us, hrs, by rw [hrs.1, hlen], fun w' hw' n hn => ?_⟩
    by_cases h0 : n * k = 0
    · simp only [Builtin.firstCells, h0, List.take_zero]; rfl
    · have hmk : m * k ≠ 0 := by
        intro e0; apply h0
        rcases Nat.mul_eq_zero.1 e0 with q | q
        · have : n = 0 := by omega
          rw [this]; simp
        · rw [q]; simp
      simp only [srcCells, Option.isSome_none, Bool.false_eq_true, if_false, if_neg hmk] at e
      obtain ⟨cl, hcl, e⟩ := Option.bind_eq_some_iff.1 e
      obtain ⟨l', hl', e⟩ := Option.map_eq_some_iff.1 e
      cases e
      obtain ⟨t, ht⟩ := cellsAt_some hcl
      obtain ⟨hg1, hg2⟩ := grab_some hl'
      obtain ⟨arr, t', fz, q1, q2, q3, q4, q5⟩ := H.cells hb ht
      have ho' : o' = o + d := by
        rcases ho with h1 | h1
        · exfalso; have : m = 0 := by omega
          rw [this] at hmk; simp at hmk
        · exact h1
      -- the cells themselves
      have hcells : ∀ j u, us[j]? = some u → arr[o' + j]? = some u := by
        intro j u hj
        have hjl : j < us.length := (List.getElem?_eq_some_iff.1 hj).1
        have hsz : ∀ j, j < m * k → ∃ v, arr[d + (o + j)]? = some v := by
          intro j hj
          obtain ⟨u', hu', _⟩ := q5 (o + j) (cl[o + j]'(by omega)) (by simp)
          exact ⟨u', hu'⟩
        have hrun2 := run_loadCells w (P := P) ⟨c, o', none⟩ (m * k) (fun j => (arr[d + (o + j)]?).getD undef) (fun j hj => by
          rw [cell_add (e := t') (fz := fz) (cc := arr) rfl q1]
          obtain ⟨v, hv⟩ := hsz j hj
          simp only [ho', show o + d + j = d + (o + j) by omega, hv]; rfl)
        rw [hrun] at hrun2
        injection hrun2 with hrun2 _
        have he : us = (List.range (m * k)).map fun j => (arr[d + (o + j)]?).getD undef := by
          have := congrArg Array.toList hrun2; simpa using this
        rw [he] at hj
        have hjm : j < m * k := by omega
        simp [hjm] at hj
        obtain ⟨v, hv⟩ := hsz j hjm
        rw [ho', show o + d + j = d + (o + j) by omega, hv]
        rw [hv] at hj; simpa using hj
      simp only [Builtin.firstCells]
      have hle : n * k ≤ m * k := Nat.mul_le_mul_right _ hn
      have hlt : (us.take (n * k)).length = n * k := by simp; omega
      rw [← hlt]
      rw [run_loadCells_list w' (P := P) ⟨c, o', none⟩ (us.take (n * k)) fun j v hj => by
        rw [cell_add (e := t') (fz := fz) (cc := arr) rfl (by rw [hw']; exact q1)]
        rw [List.getElem?_take] at hj
        split at hj
        · exact hcells j v hj
        · cases hj]
      simp
  | slDead hb _ _ =>
    have hr0 := VR.slDead (len := 0) (cap := 0) (cap' := 0) (o := 0) (c := ⟨0, 0, none⟩) hb (Nat.le_refl 0) (Nat.le_refl 0)
    rename_i b o len cap cap' c
    simp only [srcCells] at e
    split at e
    · cases e
    · split at e
      · rename_i h0
        cases e
        refine ⟨rfl, [], .nil, by simp [h0], fun w' hw' n hn => ?_⟩
        have : n * k = 0 := by
          rcases Nat.mul_eq_zero.1 h0 with q | q
          · have : n = 0 := by omega
            rw [this]; simp
          · rw [q]; simp
        simp only [Builtin.firstCells, this, List.take_zero]; rfl
      · obtain ⟨cl, hcl, e⟩ := Option.bind_eq_some_iff.1 e
        obtain ⟨t, ht⟩ := cellsAt_some hcl
        rw [H.dead _ hb] at ht; cases ht
  | _ => simp [srcCells] at e
theorem copy_ok {o : Oper} {c : Call} {k : Nat} {t e : TypeId} {d x : Operand} {d' x' v : Value} {h' : Heap} (hop : o.op = .call c) (hcal : c.callee = .builtin .copy) (S : St P B0 κ μ h w)
    (ht : c.argTypes[0]? = some t) (hu : P.underlying t = some (.slice e)) (hk : tySize P e = some k) (hd0 : c.args[0]? = some d) (hx0 : c.args[1]? = some x)
    (hd : VR μ d' (ρ d)) (hx : VR μ x' (ρ x)) (ev : aCopy κ h k d' x' = some (v, h')) : DV P B0 κ μ h w (execOp ρ o) v h' := by
  have he : execOp ρ o = (do pure (.value (← Builtin.copy_ c.argTypes o.type (c.args.map ρ)))) := by
    unfold execOp; rw [hop]
    simp only [resolve, hcal]
    rfl
  rw [he]
  unfold aCopy at ev
  split at ev
  · rename_i a n cap m l hsrc
    obtain ⟨hlen, us, hrs, hll, hfirst⟩ := src_ok S.hr hx hsrc
    have h1 : (c.args.map ρ)[0]? = some (ρ d) := by simp [hd0]
    have h2 : (c.args.map ρ)[1]? = some (ρ x) := by simp [hx0]
    have hfn := hfirst w rfl (Nat.min m n) (Nat.min_le_left _ _)
    cases a with
    | none =>
      cases ev
      generalize ρ d = cd at hd h1
      cases hd
      have h0 : Nat.min m 0 = 0 := Nat.min_eq_right (Nat.zero_le _)
      rw [h0] at hfn
      refine ⟨μ, w, .refl S, .inl ⟨.int .i64 0, ?_, .int _ _⟩⟩
      simp only [Builtin.copy_, ht, h1, h2, Sem.run_bind, run_ty hu, Result.andThen_ok, hlen, h0, run_size hk, hfn, Sem.run_pure, goInt]
      rfl
    | some p =>
      simp only at ev
      split at ev
      · cases ev
      · rename_i hsp
        split at ev
        · rename_i h0
          cases ev
          rw [h0] at hfn
          refine ⟨μ, w, .refl S, .inl ⟨.int .i64 (Nat.min m n : Nat), ?_, .int _ _⟩⟩
          generalize ρ d = cd at hd h1
          cases hd <;>
          (simp only [Builtin.copy_, ht, h1, h2, Sem.run_bind, run_ty hu, Result.andThen_ok, hlen, run_size hk, hfn, List.take_zero, storeCells, Sem.run_pure, goInt])
        · rename_i h0
          obtain ⟨h'', hw, e2⟩ := Option.map_eq_some_iff.1 ev
          cases e2
          obtain ⟨_, _, hlive⟩ := wr_live hw
          generalize ρ d = cd at hd h1
          cases hd with
          | @sl b oo len cp cc dd nn kk o' cap' hb hl hc ho hr =>
            have ho' : o' = oo + dd := by
              rcases ho with q | q
              · exfalso; apply h0
                have : n = 0 := by omega
                rw [this]; simp
              · exact q
            obtain ⟨w', r1, r2⟩ := wr_ok S hw hb (hrs.take (Nat.min m n * k))
            refine ⟨μ, w', r2, .inl ⟨.int .i64 (Nat.min m n : Nat), ?_, .int _ _⟩⟩
            subst ho'
            simp only [Builtin.copy_, ht, h1, h2, Sem.run_bind, run_ty hu, Result.andThen_ok, hlen, run_size hk, hfn, r1, Sem.run_pure, goInt]
          | slDead hb _ _ => rw [S.hr.dead _ hb] at hlive; cases hlive
  · cases ev
theorem zeroCells_eq {z : Array Value} {n : Nat} (hz : z.size ≠ 0) : (Builtin.zeroCells z n).toList = (List.replicate n z.toList).flatten := by
  have := zeros_eq (z := z.toList) (n := n) (s := z.size) (by simp)
  unfold Builtin.zeroCells
  by_cases h0 : n * z.size = 0
  · have hn : n = 0 := by rcases Nat.mul_eq_zero.1 h0 with q | q; · exact q
                          · exact absurd q hz
    subst hn; simp
  · simp only [if_neg h0, Array.toArray_toList] at this
    exact this
theorem clear_ok {o : Oper} {c : Call} {k : Nat} {t e : TypeId} {d : Operand} {d' v : Value} {z : List Value} {h' : Heap} (hop : o.op = .call c) (hcal : c.callee = .builtin .clear) (S : St P B0 κ μ h w)
    (ht : c.argTypes[0]? = some t) (hu : P.underlying t = some (.slice e)) (hz : tyZero P e = some z) (hzl : z.length = k) (hk0 : k ≠ 0) (hd0 : c.args[0]? = some d)
    (hd : VR μ d' (ρ d)) (ev : aClear κ h z d' = some (v, h')) : DV P B0 κ μ h w (execOp ρ o) v h' := by
  have he : execOp ρ o = (do pure (.value (← Builtin.clear_ c.argTypes o.type (c.args.map ρ)))) := by
    unfold execOp; rw [hop]
    simp only [resolve, hcal]
    rfl
  rw [he]
  obtain ⟨zv, hzv, rfl, hzc⟩ := tyZero_some hz
  have h1 : (c.args.map ρ)[0]? = some (ρ d) := by simp [hd0]
  unfold aClear at ev
  split at ev
  · cases ev
    refine ⟨μ, w, .refl S, .inl ⟨.tuple #[], ?_, .tuple rfl (by simp)⟩⟩
    generalize ρ d = cd at hd h1
    cases hd <;> simp only [Builtin.clear_, ht, h1, Sem.run_bind, run_ty hu, Result.andThen_ok, Sem.run_pure]
  · rename_i a n cap hne
    split at ev
    · cases ev
    · rename_i hsp
      obtain ⟨h'', hw, e2⟩ := Option.map_eq_some_iff.1 ev
      cases e2
      obtain ⟨_, _, hlive⟩ := wr_live hw
      have hn0 : n ≠ 0 := hne
      obtain ⟨n1, rfl⟩ : ∃ n1, n = n1 + 1 := ⟨n - 1, by omega⟩
      generalize ρ d = cd at hd h1
      cases hd with
      | @sl b oo len cp cc dd nn kk o' cap' hb hl hc ho hr =>
        have ho' : o' = oo + dd := by
          rcases ho with q | q
          · exfalso; omega
          · exact q
        obtain ⟨w', r1, r2⟩ := wr_ok S hw hb ((consts_VRs (μ := μ) hzc).replicate (n1 + 1))
        refine ⟨μ, w', r2, .inl ⟨.tuple #[], ?_, .tuple rfl (by simp)⟩⟩
        subst ho'
        have hzz := zeroCells_eq (z := zv.cells) (n := n1 + 1) (by simp at hzl; omega)
        simp only [Builtin.clear_, ht, h1, Sem.run_bind, run_ty hu, Result.andThen_ok, run_zero hzv, hzz, r1, Sem.run_pure]
      | slDead hb _ _ => rw [S.hr.dead _ hb] at hlive; cases hlive
  · cases ev
theorem next_ok {o : Oper} {x : Operand} {x' v : Value} {h' : Heap} (hop : o.op = .next x true) (S : St P B0 κ μ h w) (hx : VR μ x' (ρ x)) (ev : aNext κ h x' = some (v, h')) :
    DV P B0 κ μ h w (execOp ρ o) v h' := by
  have he : execOp ρ o = (do pure (.value (← Instr.next (ρ x) true o.type))) := by unfold execOp; rw [hop]
  rw [he]
  unfold aNext at ev
  split at ev
  · rename_i r sp
    split at ev
    · rename_i s pos hr
      split at ev
      · rename_i hfl
        generalize ρ x = cx at hx ⊢
        cases hx with
        | @ptr b oo cb dd nn kk hb =>
          obtain ⟨xx, oo', q1, q2, q3⟩ := S.hr.obj _ _ _ _ _ hb
          rw [hr] at q1; cases q1
          cases oo' with
          | stringIter s' pos' =>
            obtain ⟨rfl, rfl, rfl⟩ := q3
            have hobj : (getObj cb).run P w = .ok (.stringIter s pos) w := by simp only [getObj, Sem.run, q2]
            split at ev
            · rename_i hp
              cases ev
              have hset : (setObj cb (.stringIter s (pos + (Utf8.decode s pos).2))).run P w = .ok () { w with heap := w.heap.setIfInBounds cb (.stringIter s (pos + (Utf8.decode s pos).2)) } := by
                simp only [setObj, Sem.run, q2]
              refine ⟨μ, _, S.putObj (w' := { w with heap := w.heap.setIfInBounds cb (.stringIter s (pos + (Utf8.decode s pos).2)) }) hb hfl rfl ⟨rfl, rfl, rfl⟩ (fun _ _ _ => trivial) rfl rfl ⟨rfl, Nat.le_refl _⟩, .inl ⟨.tuple #[.bool true, goInt pos, .int .i32 (Utf8.decode s pos).1], ?_, ?_⟩⟩
              · simp only [Instr.next, Nat.add_zero, Sem.run_bind, hobj, Result.andThen_ok, if_pos hp, hset, Sem.run_pure]
              · exact VRs.tuple (l := [_, _, _]) (m := [_, _, _]) (.cons (.bool _) (.cons (.int _ _) (.cons (.int _ _) .nil)))
            · rename_i hp
              cases ev
              refine ⟨μ, w, .refl S, .inl ⟨.tuple #[.bool false], ?_, VRs.tuple (l := [_]) (m := [_]) (.cons (.bool _) .nil)⟩⟩
              simp only [Instr.next, Nat.add_zero, Sem.run_bind, hobj, Result.andThen_ok, if_neg hp, Sem.run_pure]
          | _ => exact q3.elim
        | ptrDead hb => rw [S.hr.dead _ hb] at hr; cases hr
      · cases ev
    · cases ev
  · cases ev
theorem insert_ok {o : Oper} {t kt e : TypeId} {kk' : IntKind} {m k x : Operand} {m' k' x' v : Value} {h' : Heap} (hop : o.op = .insert t m k x) (S : St P B0 κ μ h w)
    (hu : P.underlying t = some (.map kt e)) (huk : P.underlying kt = some (.int kk')) (hm : VR μ m' (ρ m)) (hk : VR μ k' (ρ k)) (hx : VR μ x' (ρ x))
    (ev : aInsert κ h m' k' x' = some (v, h')) : DV P B0 κ μ h w (execOp ρ o) v h' := by
  have he : execOp ρ o = (do Instr.mapUpdate t (ρ m) (ρ k) (ρ x); pure .skip) := by unfold execOp; rw [hop]
  rw [he]
  unfold aInsert at ev
  split at ev
  · rename_i r kk n
    split at ev
    · rename_i es hes
      split at ev
      · rename_i hmay
        split at ev
        · rename_i hf
          cases ev
          generalize ρ m = cm at hm ⊢
          generalize ρ k = ck at hk ⊢
          cases hk
          cases hm with
          | @map r c d nn q hb =>
            obtain ⟨xx, oo', q1, q2, q3⟩ := S.hr.obj _ _ _ _ _ hb
            rw [hes] at q1; cases q1
            cases oo' with
            | map ces clock =>
              obtain ⟨q4, q5⟩ := q3
              have hobj : (getObj c).run P w = .ok (.map ces clock) w := by simp only [getObj, Sem.run, q2]
              have hchk : ∀ b n' , (Instr.checkKey b (n' + 1) kt (.int kk n)).run P w = .ok () w := by
                intro b n'; unfold Instr.checkKey; simp only [Sem.run_bind, run_ty huk, Result.andThen_ok]; rfl
              obtain ⟨qq, hqq, hq2⟩ := find_ok (kk0 := kk') (ces := ces.toList) (μ := μ) 0 hf (by simpa using q4) (fun i e c he hc => q5 i e c he (by simpa using hc))
              have hqn : qq = none := by
                rcases hq2 with ⟨_, h⟩ | ⟨_, _, _, h, _⟩
                · exact h
                · cases h
              subst hqn
              have hset : (setObj c (.map (ces.push { key := .int kk n, val := ρ x, born := clock }) (clock + 1))).run P w = .ok () { w with heap := w.heap.setIfInBounds c (.map (ces.push { key := .int kk n, val := ρ x, born := clock }) (clock + 1)) } := by
                simp only [setObj, Sem.run, q2]
              simp only [mayPut, Bool.and_eq_true, decide_eq_true_eq, List.all_eq_true, Bool.or_eq_true] at hmay
              refine ⟨μ, _, S.putObj (w' := { w with heap := w.heap.setIfInBounds c (.map (ces.push { key := .int kk n, val := ρ x, born := clock }) (clock + 1)) }) hb hmay.1 rfl ?_ (fun qc hqc hlt => ?_) rfl rfl ⟨rfl, Nat.le_refl _⟩, .inr ⟨?_, rfl⟩⟩
              · refine ⟨by simp [q4], fun i e c' he hc' => ?_⟩
                rw [List.getElem?_append] at he
                rw [Array.getElem?_push] at hc'
                split at he
                · rename_i hi
                  rw [if_neg (by omega)] at hc'
                  exact q5 i e c' he hc'
                · rename_i hi
                  have : i - es.length = 0 := by
                    have := (List.getElem?_eq_some_iff.1 he).1; simp at this; omega
                  rw [this] at he
                  simp at he; subst he
                  rw [if_pos (by omega)] at hc'
                  cases hc'
                  exact ⟨⟨kk, n, rfl, rfl⟩, hx⟩
              · intro e he
                rcases List.mem_append.1 he with h1 | h1
                · exact S.ceil qc hqc r hlt (by rw [hb]; exact fun e => Mp.noConfusion e) _ hes e h1
                · simp at h1; subst h1
                  rcases hmay.2 qc hqc with h2 | h2
                  · omega
                  · exact hx.bel_vb 6 (h2 x' (by simp))
              · simp only [Instr.mapUpdate, Sem.run_bind, run_ty hu, Result.andThen_ok, hobj, hchk, Instr.findKey, run_ty huk, hqq, Sem.run_pure, hset]
            | _ => exact q3.elim
          | mapDead hb => rw [S.hr.dead _ hb] at hes; cases hes
        · cases ev
      · cases ev
    · cases ev
  · cases ev
theorem VR_slice_none {n c : Nat} {x : Value} (hr : VR μ (.slice none n c) x) : n = 0 ∧ c = 0 ∧ x = .slice none 0 0 := by cases hr; exact ⟨rfl, rfl, rfl⟩
theorem appendCap_run (need old : Nat) (e : TypeId) (w : World) : ∃ cap, need ≤ cap ∧ (choose (.appendCap need old e)).run P w = .ok cap w.drew := by
  refine ⟨need + w.tape w.drawn (.appendCap need old e) % (2 ^ 63 - need), by omega, ?_⟩
  simp only [run_choose, Question.forced, Bool.false_eq_true, if_false, Question.cut]
  rfl
theorem isInt_run {u : TypeId} (hu : isIntTy P u = false) : ∃ d, P.underlying u = some d ∧ (match d with | .int _ => true | _ => false) = false := by
  unfold isIntTy at hu
  split at hu
  · cases hu
  · cases hu
  · rename_i h1 h2
    cases hd : P.underlying u with
    | none => exact absurd hd h2
    | some d => exact ⟨d, rfl, by cases d <;> first | rfl | exact absurd hd (h1 _)⟩
theorem append_room {argTypes : Array TypeId} {ty t u e : TypeId} {k n c m : Nat} {base : Option Addr} {args : Array Value} {x : Value} {us : List Value} {w' : World}
    (ht : argTypes[0]? = some t) (hu : argTypes[1]? = some u) (hui : isIntTy P u = false) (hd : P.underlying t = some (.slice e)) (hk : tySize P e = some k)
    (h0 : args[0]? = some (.slice base n c)) (h1 : args[1]? = some x) (hlen : (Builtin.lenOf x).run P w = .ok m w) (hroom : n + m ≤ c)
    (hfirst : (Builtin.firstCells k m x).run P w = .ok us.toArray w)
    (hst : ∀ a, base = some a → (storeCells (a.add (n * k)) us).run P w = .ok () w') (hnone : base = none → w' = w) :
    (Builtin.append_ argTypes ty args).run P w = .ok (.slice base (n + m) c) w' := by
  obtain ⟨du, hdu, hdi⟩ := isInt_run hui
  have hfin : ∀ s : Sem Value, s = (match base with
      | some a => do storeCells (a.add (n * k)) us; pure (.slice base (n + m) c)
      | none => pure (.slice base (n + m) c)) → s.run P w = .ok (.slice base (n + m) c) w' := by
    rintro s rfl
    cases base with
    | none => have e := hnone rfl; subst e; rfl
    | some a => simp only [Sem.run_bind, hst a rfl, Result.andThen_ok, Sem.run_pure]
  cases du <;> first
    | (cases hdi; done)
    | (simp only [Builtin.append_, ht, hu, h0, h1, Sem.run_bind, run_ty hd, Result.andThen_ok, run_size hk, run_ty hdu, Sem.run_pure, Bool.false_eq_true, if_false, hlen, if_pos hroom, Bool.not_false, if_true, hfirst]
       refine hfin _ ?_
       cases base <;> rfl)
theorem append_grow {argTypes : Array TypeId} {ty t u e : TypeId} {k n c m by_ : Nat} {base : Option Addr} {args : Array Value} {x : Value} {us old : List Value} {zv : Value}
    (ht : argTypes[0]? = some t) (hu : argTypes[1]? = some u) (hui : isIntTy P u = false) (hd : P.underlying t = some (.slice e)) (hk : tySize P e = some k)
    (hby : tyBytes P e = some by_) (hz : (P.info? e).bind (·.zero) = some zv)
    (h0 : args[0]? = some (.slice base n c)) (h1 : args[1]? = some x) (hlen : (Builtin.lenOf x).run P w = .ok m w) (hroom : ¬ n + m ≤ c) (hb1 : (n + m) * by_ ≤ 140737488355328) (hb2 : n + m ≤ 35184372088832)
    (hfirst : ∀ w' : World, w'.heap = w.heap → (Builtin.firstCells k m x).run P w' = .ok us.toArray w')
    (hold : ∀ w' : World, w'.heap = w.heap → (Builtin.firstCells k n (.slice base n c)).run P w' = .ok old.toArray w') :
    ∃ cap, n + m ≤ cap ∧ (Builtin.append_ argTypes ty args).run P w =
      .ok (.slice (some ⟨w.heap.size, 0, none⟩) (n + m) cap) (w.drew.alloc (.cells (old.toArray ++ us.toArray ++ Builtin.zeroCells zv.cells (cap - (n + m))) e)) := by
  obtain ⟨du, hdu, hdi⟩ := isInt_run hui
  obtain ⟨i, hi, hib⟩ := run_bytes hby
  obtain ⟨cap, hcap, hch⟩ := appendCap_run (P := P) (n + m) c e w
  refine ⟨cap, hcap, ?_⟩
  have hmax : ¬ (((n + m : Nat) : Int) > IntKind.i64.max ∧ (False ∨ i.bytes = 0)) := by
    intro ⟨q, _⟩
    have : IntKind.i64.max = 9223372036854775807 := rfl
    omega
  have hfit : ¬ (Builtin.nextslicecap (n + m) c * i.bytes > 2 ^ 48) := by
    have := growslice_fits (need := n + m) (old := c) (bytes := by_) (by omega) (by omega)
    rw [hib]; omega
  cases du <;> first
    | (cases hdi; done)
    | (simp only [Builtin.append_, ht, hu, h0, h1, Sem.run_bind, run_ty hd, Result.andThen_ok, run_size hk, run_ty hdu, Sem.run_pure, Bool.false_eq_true, if_false, hlen, if_neg hroom, run_info hi, if_neg hmax, if_neg hfit, hch, run_askRoom, hold w.drew rfl, Bool.not_false, if_true,
        hfirst w.drew rfl, run_zero hz, newRow_run]
       rfl)
theorem OR.pre {μ' : Mu} {l us rest : List Value} {e : TypeId} (hr : VRs μ' l us) (low : Prop) {cc : Array Value} (hc : cc.toList = us ++ rest) {n : Nat} (hn : cc.size = n) (hbt : bldTy P e = false) :
    OR P μ' low (.cells l e) (.cells cc e) 0 n (P.cellsOf e) := by
  have h1 := hr.1
  have h2 : cc.size = us.length + rest.length := by have := congrArg List.length hc; simpa using this
  refine ⟨hn, by omega, .inr ⟨rfl, rfl, fun e1 => by rw [hbt] at e1; cases e1⟩, rfl, fun i v hi => ?_⟩
  obtain ⟨u, hu, hr⟩ := hr.get hi
  refine ⟨u, ?_, hr⟩
  rw [Nat.zero_add, ← Array.getElem?_toList, hc, List.getElem?_append_left (List.getElem?_eq_some_iff.1 hu).1]
  exact hu
theorem append_ok {o : Oper} {c : Call} {k by_ : Nat} {t u e : TypeId} {s x : Operand} {s' x' v : Value} {z : List Value} {h' : Heap} (hop : o.op = .call c) (hcal : c.callee = .builtin .append) (S : St P B0 κ μ h w)
    (ht : c.argTypes[0]? = some t) (hu : c.argTypes[1]? = some u) (hui : isIntTy P u = false) (hd : P.underlying t = some (.slice e)) (hk : tySize P e = some k) (hby : tyBytes P e = some by_)
    (hz : tyZero P e = some z) (hzl : z.length = k) (hk0 : k ≠ 0) (hbt : bldTy P e = false) (hs0 : c.args[0]? = some s) (hx0 : c.args[1]? = some x)
    (hs : VR μ s' (ρ s)) (hx : VR μ x' (ρ x)) (ev : aAppend κ h e k by_ s' x' = some (v, h')) : DV P B0 κ μ h w (execOp ρ o) v h' := by
  have he : execOp ρ o = (do pure (.value (← Builtin.append_ c.argTypes o.type (c.args.map ρ)))) := by
    unfold execOp; rw [hop]
    simp only [resolve, hcal]
    rfl
  rw [he]
  obtain ⟨zv, hzv, rfl, hzc⟩ := tyZero_some hz
  have h2 : (c.args.map ρ)[1]? = some (ρ x) := by simp [hx0]
  have h1 : (c.args.map ρ)[0]? = some (ρ s) := by simp [hs0]
  unfold aAppend at ev
  split at ev
  · rename_i a n cap m l hsrc
    obtain ⟨hlen, us, hrs, hll, hfirst⟩ := src_ok S.hr hx hsrc
    have husl : us.length = m * k := by rw [← hrs.1, hll]
    have hfm : ∀ w' : World, w'.heap = w.heap → (Builtin.firstCells k m (ρ x)).run P w' = .ok us.toArray w' := by
      intro w' hw'
      have := hfirst w' hw' m (Nat.le_refl _)
      rwa [List.take_of_length_le (by omega)] at this
    split at ev
    · cases ev
    · rename_i hsp
      split at ev
      · cases ev
      · rename_i hbd
        simp only [not_or, Nat.not_lt] at hbd
        split at ev
        · -- there is room
          rename_i hroom
          cases a with
          | none =>
            simp only at ev
            split at ev
            · rename_i hm0
              cases ev
              obtain ⟨rfl, rfl, hcs⟩ := VR_slice_none hs
              rw [hcs] at h1
              have hm0' : m = 0 := hm0
              refine ⟨μ, w, .refl S, .inl ⟨.slice none 0 0, ?_, .slNil⟩⟩
              have := append_room (P := P) (w := w) (w' := w) (ty := o.type) ht hu hui hd hk h1 h2 hlen (by omega) (hfm w rfl) (fun a ha => by cases ha) (fun _ => rfl)
              rw [hm0'] at this
              simp only [Sem.run_bind, this, Result.andThen_ok, Sem.run_pure]
            · cases ev
          | some p =>
            simp only at ev
            split at ev
            · rename_i hmk
              cases ev
              have hm0 : m = 0 := by rcases Nat.mul_eq_zero.1 hmk with q | q; · exact q
                                     · exact absurd q hk0
              subst hm0
              have hus : us = [] := by cases us with | nil => rfl | cons a l => simp at husl
              subst hus
              generalize ρ s = cs at hs h1
              have hs' := hs
              cases hs with
              | @sl b oo len cp cc dd nn kk o' cap' hb hl hc ho hr =>
                refine ⟨μ, w, .refl S, .inl ⟨_, ?_, hs'⟩⟩
                have := append_room (P := P) (w := w) (w' := w) (ty := o.type) ht hu hui hd hk h1 h2 hlen (by omega) (hfm w rfl) (fun a ha => rfl) (fun _ => rfl)
                simp only [Sem.run_bind, this, Result.andThen_ok, Sem.run_pure, Nat.add_zero]
              | slDead hb hl hc =>
                refine ⟨μ, w, .refl S, .inl ⟨_, ?_, hs'⟩⟩
                have := append_room (P := P) (w := w) (w' := w) (ty := o.type) ht hu hui hd hk h1 h2 hlen (by omega) (hfm w rfl) (fun a ha => rfl) (fun _ => rfl)
                simp only [Sem.run_bind, this, Result.andThen_ok, Sem.run_pure, Nat.add_zero]
            · rename_i hmk
              obtain ⟨h'', hw, e2⟩ := Option.map_eq_some_iff.1 ev
              cases e2
              obtain ⟨_, _, hlive⟩ := wr_live hw
              generalize ρ s = cs at hs h1
              cases hs with
              | @sl b oo len cp cc dd nn kk o' cap' hb hl hc ho hr =>
                have hm0 : m ≠ 0 := by intro q; rw [q] at hmk; simp at hmk
                have ho' : o' = oo + dd := by
                  rcases ho with q | q
                  · exfalso; omega
                  · exact q
                subst ho'
                obtain ⟨w', r1, r2⟩ := wr_ok S hw hb hrs
                refine ⟨μ, w', r2, .inl ⟨.slice (some ⟨cc, oo + dd, none⟩) (n + m) cap', ?_, .sl hb (by omega) hc (.inr rfl) hr⟩⟩
                have := append_room (P := P) (w := w) (w' := w') (ty := o.type) ht hu hui hd hk h1 h2 hlen (by omega) (hfm w rfl) (fun a ha => by
                  cases ha
                  rw [add_off, show oo + dd + n * k = oo + n * k + dd by omega]; exact r1) (fun h => by cases h)
                simp only [Sem.run_bind, this, Result.andThen_ok, Sem.run_pure]
              | slDead hb _ _ => rw [S.hr.dead _ hb] at hlive; cases hlive
        · rename_i hroom
          have hkc : P.cellsOf e = k := tySize_cellsOf hk
          cases a with
          | none =>
            simp only at ev
            split at ev
            · rename_i hcond
              simp only [Bool.and_eq_true, decide_eq_true_eq] at hcond
              cases ev
              obtain ⟨rfl, rfl, hcs⟩ := VR_slice_none hs
              rw [hcs] at h1
              obtain ⟨cp, hcp, hrun⟩ := append_grow (P := P) (w := w) (ty := o.type) (old := []) ht hu hui hd hk hby hzv h1 h2 hlen hroom hbd.1 hbd.2 hfm (fun w' _ => by simp [Builtin.firstCells])
              have hsz : (([] : List Value).toArray ++ us.toArray ++ Builtin.zeroCells zv.cells (cp - (0 + m))).size = cp * k := by
                simp only [Array.size_append, List.size_toArray, List.length_nil, Builtin.zeroCells, Array.size_map, Array.size_range, husl]
                have : zv.cells.size = k := by simpa using hzl
                rw [this, Nat.zero_add, Nat.zero_add, ← Nat.add_mul]; congr 1; omega
              have hal := S.drew.st.alloc (x := .cells l e) (o := .cells (([] : List Value).toArray ++ us.toArray ++ Builtin.zeroCells zv.cells (cp - (0 + m))) e) (n := cp * k) (k := P.cellsOf e)
                (OR.pre (us := us) (rest := (Builtin.zeroCells zv.cells (cp - (0 + m))).toList) (hrs.mono (Mu.le_set_un S.hr.un_size)) _ (by simp) hsz hbt)
              refine ⟨_, _, S.drew.trans hal, .inl ⟨.slice (some ⟨w.heap.size, 0, none⟩) (0 + m) cp, by simp only [Sem.run_bind, hrun, Result.andThen_ok, Sem.run_pure], ?_⟩⟩
              rw [Nat.zero_add]
              exact .sl (o := 0) (d := 0) (Mu.set_same _ _ _) (Nat.le_refl _) (by omega) (.inr rfl) (by rw [hkc]; simp)
            · cases ev
          | some p =>
            simp only at ev
            split at ev
            · rename_i n2 old ll ee hso hblk
              split at ev
              · rename_i hcond
                simp only [Bool.and_eq_true, decide_eq_true_eq, beq_iff_eq] at hcond
                obtain ⟨⟨⟨hfl, hee⟩, hl1⟩, ho1⟩ := hcond
                subst hee
                cases ev
                generalize hcs : ρ s = cs at hs h1
                have hs' := hs
                obtain ⟨hlen2, us2, hrs2, hll2, hfirst2⟩ := src_ok S.hr hs' hso
                cases hs with
                | @sl b oo len cp cc dd nn kk o' cap' hb hl hc ho hr =>
                  have hn2 : n2 = n := by
                    simp only [srcCells, Option.isSome_none, Bool.false_eq_true, if_false] at hso
                    split at hso
                    · cases hso; rfl
                    · obtain ⟨_, _, hso⟩ := Option.bind_eq_some_iff.1 hso
                      obtain ⟨_, _, e2⟩ := Option.map_eq_some_iff.1 hso
                      cases e2; rfl
                  subst hn2
                  have hus2 : us2.length = n2 * k := by rw [← hrs2.1, hll2]
                  obtain ⟨arr, t', fz, q1, q2, q3, ⟨q4, q5⟩, q6⟩ := S.hr.cells hb hblk
                  have hkk : kk = k := by rw [q5, hkc]
                  subst hkk
                  have hB : ¬ b < B0.1 := by have := S.fl; simp only at hfl; omega
                  have hfz : fz = (0, 0) := (q4.resolve_left hB).1
                  by_cases hcap : n2 + m ≤ cap'
                  · -- the other one has room
                    have hin : o' + (n2 + m) * kk ≤ arr.size := by
                      rw [q2]
                      have : (n2 + m) * kk ≤ cap' * kk := Nat.mul_le_mul_right _ hcap
                      omega
                    obtain ⟨w', cc', r1, r2, r3, r4, r5, r6⟩ := run_storeAt (P := P) (c := cc) (o := o' + n2 * kk) (t := t') hfz us 0 arr w q1 (by rw [husl]; rw [Nat.add_mul] at hin; omega) (fun u hu => by
                      obtain ⟨i, hi⟩ := List.mem_iff_getElem?.1 hu
                      have hi' : i < l.length := by have := (List.getElem?_eq_some_iff.1 hi).1; have := hrs.1; omega
                      exact one_VR (hrs.2 i l[i] u (by simp [hi']) hi) (List.all_eq_true.1 hl1 _ (List.getElem_mem _)))
                    have hrun := append_room (P := P) (w := w) (w' := w') (ty := o.type) ht hu hui hd hk h1 h2 hlen hcap (hfm w rfl) (fun a ha => by
                      cases ha; rw [add_off]; exact r1) (fun h => by cases h)
                    have hle : Mu.le μ ((μ.set b .dead).set h.size (.at cc o' nn kk)) := (Mu.le_kill hb).trans (Mu.le_set_un (by
                      have := (S.kill hb hfl).st.hr.un_size; simpa using this))
                    have hO : OR P ((μ.set b .dead).set h.size (.at cc o' nn kk)) (h.size < B0.1) (.cells (old ++ l) ee) (.cells cc' t' fz) o' nn kk := by
                      refine ⟨by rw [r3.1]; exact q2, ?_, .inr ⟨hfz, (q4.resolve_left hB).2.1, fun q => by rw [hbt] at q; cases q⟩, q5, fun i v hi => ?_⟩
                      · rw [List.length_append, hll2, hll, ← Nat.add_mul]; omega
                      · rw [List.getElem?_append] at hi
                        rw [r3.2]
                        split at hi
                        · rename_i hio
                          rw [if_neg (by omega)]
                          -- an old cell
                          have hn0 : n2 ≠ 0 := by intro q; rw [q] at hll2; omega
                          have ho' : o' = oo + dd := by
                            rcases ho with q | q
                            · exfalso; omega
                            · exact q
                          have hmk : n2 * kk ≠ 0 := by rw [← hll2]; omega
                          simp only [srcCells, Option.isSome_none, Bool.false_eq_true, if_false, if_neg hmk] at hso
                          obtain ⟨cl, hcl, hso⟩ := Option.bind_eq_some_iff.1 hso
                          obtain ⟨l', hl', e2⟩ := Option.map_eq_some_iff.1 hso
                          cases e2
                          obtain ⟨hg1, hg2⟩ := grab_some hl'
                          obtain ⟨tt, htt⟩ := cellsAt_some hcl
                          rw [hblk] at htt; cases htt
                          rw [hg2, List.getElem?_take] at hi
                          split at hi
                          · rw [List.getElem?_drop] at hi
                            obtain ⟨u, hu, hru⟩ := q6 _ _ hi
                            exact ⟨u, by rw [ho', show oo + dd + i = dd + (oo + i) by omega]; exact hu, hru.mono hle⟩
                          · cases hi
                        · rename_i hio
                          have hil : i - old.length < l.length := (List.getElem?_eq_some_iff.1 hi).1
                          have := hrs.1
                          rw [if_pos (by omega), show o' + i - (o' + n2 * kk + 0) = i - old.length by omega]
                          obtain ⟨u, hu, hru⟩ := hrs.get hi
                          exact ⟨u, hu, hru.mono hle⟩
                    refine ⟨_, w', S.regrow (e := ee) hb hfl q1 r2 hO r4 r5 r6, .inl ⟨.slice (some ⟨cc, o', none⟩) (n2 + m) cap', by simp only [Sem.run_bind, hrun, Result.andThen_ok, Sem.run_pure], ?_⟩⟩
                    exact .sl (o := 0) (d := o') (Mu.set_same _ _ _) (Nat.le_refl _) hcap (.inr (by omega)) hr
                  · -- neither has
                    obtain ⟨cp2, hcp, hrun⟩ := append_grow (P := P) (w := w) (ty := o.type) (old := us2) ht hu hui hd hk hby hzv h1 h2 hlen hcap hbd.1 hbd.2 hfm (fun w' hw' => by
                      have := hfirst2 w' hw' n2 (Nat.le_refl _)
                      rwa [List.take_of_length_le (by omega)] at this)
                    have hK := S.drew.st.kill hb hfl
                    have hsz : (us2.toArray ++ us.toArray ++ Builtin.zeroCells zv.cells (cp2 - (n2 + m))).size = cp2 * kk := by
                      simp only [Array.size_append, List.size_toArray, Builtin.zeroCells, Array.size_map, Array.size_range, husl, hus2]
                      have : zv.cells.size = kk := by simpa using hzl
                      rw [this, ← Nat.add_mul, ← Nat.add_mul]; congr 1; omega
                    have hle : Mu.le μ ((μ.set b .dead).set (h.setIfInBounds b .dead).size (.at w.drew.heap.size 0 (cp2 * kk) (P.cellsOf ee))) := (Mu.le_kill hb).trans (Mu.le_set_un hK.st.hr.un_size)
                    have hal := hK.st.alloc (x := .cells (old ++ l) ee) (o := .cells (us2.toArray ++ us.toArray ++ Builtin.zeroCells zv.cells (cp2 - (n2 + m))) ee) (n := cp2 * kk) (k := P.cellsOf ee)
                      (OR.pre (us := us2 ++ us) (rest := (Builtin.zeroCells zv.cells (cp2 - (n2 + m))).toList) ((hrs2.append hrs).mono hle) _ (by simp) hsz hbt)
                    refine ⟨_, _, (S.drew.trans hK).trans hal, .inl ⟨.slice (some ⟨w.heap.size, 0, none⟩) (n2 + m) cp2, by simp only [Sem.run_bind, hrun, Result.andThen_ok, Sem.run_pure], ?_⟩⟩
                    have hsz2 : (h.setIfInBounds b .dead).size = h.size := by simp
                    rw [hsz2]
                    exact .sl (o := 0) (d := 0) (Mu.set_same _ _ _) (Nat.le_refl _) hcp (.inr rfl) (by rw [hkc]; simp)
                | slDead hb _ _ => simp only at hblk; rw [S.hr.dead _ hb] at hblk; cases hblk
              · cases ev
            · cases ev
  · cases ev
end Go.AM
end

section
namespace Go.AM
def FW (ro : Option Nat) : Fence := { fn := fun _ => True, depth := none, alive := false, round := ro }
theorem callsIn_FW {ro : Option Nat} {m : Nat} {P : Program} {f : FuncId} {args : Array Value} {w : World} {R : Ending → World → Prop} (h : CallsIn (FW none) m P f args w R) : CallsIn (FW ro) m P f args w R := h
theorem callsIn_FW' {m m' : Nat} {P : Program} {f : FuncId} {args : Array Value} {w : World} {R : Ending → World → Prop} (h : CallsIn (FW none) m P f args w R) : CallsIn (FW none) m' P f args w R :=
  ⟨trivial, fun cs _ => h.2 cs fun _ h => by cases h⟩
variable {P : Program} {B0 : Nat × Nat} {κ : Ctx} {μ : Mu} {h : Heap} {w : World} {env : Env} {X : Tab}
def CallOK (P : Program) (B0 : Nat × Nat) (κ : Ctx) (μ : Mu) (h : Heap) (w : World) (v : Value) (h' : Heap) (e : Ending) (w' : World) : Prop :=
  ∃ cv μ', e = .returned cv ∧ Go1 P B0 κ μ h w μ' h' w' ∧ VR μ' v cv
def ExtOK (P : Program) (g : FuncId) (s : Ctx → List Value → Heap → Option (Value × Heap)) : Prop :=
  ∀ B0 κ args h v h' μ w cargs, s κ args h = some (v, h') → St P B0 κ μ h w → VRs μ args cargs → ∀ m, CallsIn (FW none) m P g cargs.toArray w (CallOK P B0 κ μ h w v h')
structure TabOK (P : Program) (X : Tab) : Prop where
  fn : ∀ g af, X.fn g = some af → ∃ fl, cFn P fl g = some af
  enters : ∀ g, (X.fn g).isSome ∨ (X.ext g).isSome → ∃ fn, P.funcs[g]? = some fn ∧ (fn.name == "runtime.NumGoroutine") = false ∧ fn.body.isSome
  meth : ∀ t name f, X.meth t name = some f → cMeth P t name = some f
  ext : ∀ g s, X.ext g = some s → ExtOK P g s
  mixed : P.follows .mixedOrders = true
def FOK (P : Program) (X : Tab) (n : Nat) : Prop :=
  ∀ B0 κ g args h v h' μ w cargs, callF X n κ g args h = some (v, h') → St P B0 κ μ h w → VRs μ args cargs → ∀ m, CallsIn (FW none) m P g cargs.toArray w (CallOK P B0 κ μ h w v h')
def Cont (P : Program) (B0 : Nat × Nat) (κ : Ctx) (μ : Mu) (h : Heap) (w : World) (v : Value) (h' : Heap) (next : Value → World → Prop) : Prop :=
  ∀ μ' w' cv, Go1 P B0 κ μ h w μ' h' w' → VR μ' v cv → next cv w'
def VOK (P : Program) (X : Tab) (n : Nat) : Prop :=
  ∀ B0 κ f args h v h' μ w cf cargs, callV X n κ f args h = some (v, h') → St P B0 κ μ h w → VR μ f cf → VRs μ args cargs →
    ∀ (o : Oper) (a : Act) (next : Act → World → Prop) (Q : Exit → Act → World → Prop) (ro : Option Nat) (m : Nat), Cont P B0 κ μ h w v h' (fun cv w' => next (a.put o.dst cv) w') →
      o.uponIn (FW ro) m P a next Q ((do let d ← Deferred.ofValue cf cargs.toArray; invoke d.target d.args : Sem Next).run P w)
theorem callFunc_enter {g : FuncId} {args : Array Value} (he : ∃ fn, P.funcs[g]? = some fn ∧ (fn.name == "runtime.NumGoroutine") = false ∧ fn.body.isSome) :
    (callFunc g args).run P w = .ok (.enter g args) w := by
  obtain ⟨fn, h1, h2, h3⟩ := he
  have h4 : fn.body.isNone = false := by cases hb : fn.body <;> simp [hb] at h3 ⊢
  simp only [callFunc, Sem.run_bind, run_program, Result.andThen_ok, h1, h2, Bool.false_eq_true, if_false, h4, Sem.run_pure]
theorem pure_ok {o : Oper} {ao : AOp} {v : Value} {h' : Heap} {ρ : Operand → Value} (hc : cOp P o = some ao) (e : aPure env h ao = some (v, h')) (S : St P B0 κ μ h w) (hE : opdR μ env ρ o.op.operands.toList) :
    DV P B0 κ μ h w (execOp ρ o) v h' := by
  unfold aPure at e
  split at e
  · rename_i x mk hn
    cases e
    obtain ⟨ob, n, k, cv, hrun, hO⟩ := new_ok (P := P) (w := w) hc hn hE
    have hal := hO (μ.set h.size (.at w.heap.size 0 n k)) h.size (Mu.le_set_un S.hr.un_size) (Mu.set_same _ _ _)
    exact ⟨_, _, S.alloc (hal.1 _), .inl ⟨cv, hrun, hal.2⟩⟩
  · obtain ⟨v', hv, e2⟩ := Option.map_eq_some_iff.1 e
    cases e2
    obtain ⟨cv, hrun, hr⟩ := val_ok (P := P) (w := w) hc hv S.hr hE
    exact ⟨μ, w, .refl S, .inl ⟨cv, hrun, hr⟩⟩
theorem DV.upon {o : Oper} {s : Sem Next} {v : Value} {h' : Heap} (hd : DV P B0 κ μ h w s v h') {a : Act} {next : Act → World → Prop} {Q : Exit → Act → World → Prop} {ro : Option Nat} {m : Nat}
    (K : Cont P B0 κ μ h w v h' (fun cv w' => next (a.put o.dst cv) w')) : o.uponIn (FW ro) m P a next Q (s.run P w) := by
  obtain ⟨μ', w', hg, h1⟩ := hd
  rcases h1 with ⟨cv, hr, hv⟩ | ⟨hr, rfl⟩
  · rw [hr]; exact K μ' w' cv hg hv
  · rw [hr]; exact K μ' w' undef hg undef_VR
end Go.AM
end

section
namespace Go.AM
variable {P : Program} {B0 : Nat × Nat} {κ : Ctx} {μ : Mu} {h : Heap} {w : World} {env : Env} {X : Tab} {n : Nat}
def isDop : AOp → Bool
  | .store .. | .append .. | .copy .. | .nextS .. | .clear .. | .insert .. | .call .. | .invoke .. => true
  | _ => false
theorem aOp_pure {call : Value → List Value → Heap → Option (Value × Heap)} {meth : TypeId → String → Option FuncId} {ao : AOp} (hd : isDop ao = false) : aOp call meth κ env h ao = aPure env h ao := by
  cases ao <;> first | rfl | (simp [isDop] at hd; done)
theorem cOp_isDop {o : Oper} {ao : AOp} (hc : cOp P o = some ao) (h1 : ∀ t a x, o.op ≠ .store t a x) (h2 : ∀ c, o.op ≠ .call c) (h3 : ∀ x b, o.op ≠ .next x b) (h4 : ∀ t m k x, o.op ≠ .insert t m k x) :
    isDop ao = false := by
  cases hop : o.op with
  | store t a x => exact absurd hop (h1 _ _ _)
  | call c => exact absurd hop (h2 _)
  | next x b => exact absurd hop (h3 _ _)
  | insert t m k x => exact absurd hop (h4 _ _ _ _)
  | makeMap t r =>
    unfold cOp at hc; rw [hop] at hc
    cases r with
    | none =>
      simp only [Option.pure_def, Option.bind_eq_bind, Option.bind_eq_some_iff] at hc
      obtain ⟨_, _, hc⟩ := hc
      split at hc
      · simp only [Option.bind_eq_some_iff] at hc
        obtain ⟨_, _, hc⟩ := hc
        split at hc
        · cases hc; rfl
        · cases hc
      · cases hc
    | some q =>
      cases q <;> try (cases hc; done)
      rename_i vv
      cases vv <;> try (cases hc; done)
      simp only [Option.pure_def, Option.bind_eq_bind, Option.bind_eq_some_iff] at hc
      obtain ⟨_, _, hc⟩ := hc
      split at hc
      · simp only [Option.bind_eq_some_iff] at hc
        obtain ⟨_, _, hc⟩ := hc
        split at hc
        · cases hc; rfl
        · cases hc
      · cases hc
  | _ =>
    unfold cOp at hc
    rw [hop] at hc
    clear h1 h2 h3 h4
    first
      | (cases hc; done)
      | (simp only [Option.pure_def, Option.bind_eq_bind, Option.bind_eq_some_iff] at hc
         repeat' (first
           | (cases hc; done)
           | (cases hc; rfl)
           | (obtain ⟨_, _, hc⟩ := hc)
           | (simp only [Option.bind_eq_some_iff, Option.map_eq_some_iff] at hc)
           | (unfold cEq at hc)
           | (unfold cPart at hc; simp only [Option.pure_def, Option.bind_eq_bind, Option.bind_eq_some_iff] at hc)
           | (subst hc; rfl)
           | (split at hc))
         all_goals (first | rfl | skip))
theorem meth_run {t : TypeId} {name : String} {f : FuncId} {v : Value} (hm : cMeth P t name = some f) (fuel : Nat) : (Go.method (fuel + 1) t v name).run P w = .ok (f, v) w := by
  unfold cMeth at hm
  simp only [Option.pure_def, Option.bind_eq_bind, Option.bind_eq_some_iff] at hm
  obtain ⟨i, hi, m, hfind, d, hd, hm⟩ := hm
  split at hm
  · rename_i e hpe hmf
    cases hm
    have hpath : m.path.toList = [] := by simpa using hpe
    simp only [Go.method, Sem.run_bind, run_info hi, Result.andThen_ok, hfind, hpath, Go.follow, Sem.run_pure, hmf, Go.receiverAt, run_ty hd, Go.Place.get]
  · cases hm
theorem store_inv {o : Oper} {ao : AOp} {t : TypeId} {a x : Operand} (hc : cOp P o = some ao) (hop : o.op = .store t a x) : ∃ n a' x', ao = .store n a' x' ∧ tySize P t = some n ∧ cOpd a = some a' ∧ cOpd x = some x' := by
  unfold cOp at hc; rw [hop] at hc
  simp only [Option.pure_def, Option.bind_eq_bind, Option.bind_eq_some_iff] at hc
  obtain ⟨n, hn, a', ha, x', hx, e⟩ := hc
  cases e; exact ⟨n, a', x', rfl, hn, ha, hx⟩
theorem sliceElem_some {t e : TypeId} (hel : sliceElem P t = some e) : P.underlying t = some (.slice e) := by
  unfold sliceElem at hel
  split at hel
  · rename_i hd; cases hel; exact hd
  · cases hel
theorem op_ok (T : TabOK P X) (hV : VOK P X n) {o : Oper} {ao : AOp} {v : Value} {h' : Heap} (hc : cOp P o = some ao) (e : aOp (callV X n κ) X.meth κ env h ao = some (v, h')) (S : St P B0 κ μ h w)
    {a : Act} (hE : opdR μ env a.eval o.op.operands.toList) {next : Act → World → Prop} {Q : Exit → Act → World → Prop} {ro : Option Nat} {m : Nat}
    (K : Cont P B0 κ μ h w v h' (fun cv w' => next (a.put o.dst cv) w')) : o.uponIn (FW ro) m P a next Q ((execOp a.eval o).run P w) := by
  have hp : isDop ao = false → o.uponIn (FW ro) m P a next Q ((execOp a.eval o).run P w) := by
    intro hd
    rw [aOp_pure hd] at e
    exact (pure_ok hc e S hE).upon K
  cases hop : o.op with
  | store t p x =>
    obtain ⟨n', a', x', rfl, hn, ha, hx⟩ := store_inv hc hop
    rw [hop] at hE
    have h0 := hE p (by simp [Op.operands]) a' ha
    have h1 := hE x (by simp [Op.operands]) x' hx
    simp only [aOp] at e
    split at e
    · rename_i q hq
      rw [hq] at h0
      split at e
      · cases e
      · rename_i hsp
        split at e
        · rename_i hsz
          obtain ⟨h'', hw, e2⟩ := Option.map_eq_some_iff.1 e
          cases e2
          exact (store_ok hop S hn h0 h1 (by simpa using hsp) hsz hw).upon K
        · cases e
    · cases e
  | next x b =>
    unfold cOp at hc; rw [hop] at hc hE
    cases b
    · cases hc
    · simp only [Option.pure_def, Option.bind_eq_bind, Option.bind_eq_some_iff] at hc
      obtain ⟨y, hy, e'⟩ := hc; cases e'
      exact (next_ok hop S (hE x (by simp [Op.operands]) y hy) e).upon K
  | insert t mm k x =>
    unfold cOp at hc; rw [hop] at hc hE
    simp only [Option.pure_def, Option.bind_eq_bind, Option.bind_eq_some_iff] at hc
    obtain ⟨d, hd, hc⟩ := hc
    split at hc
    · simp only [Option.bind_eq_some_iff] at hc
      obtain ⟨dk, hdk, hc⟩ := hc
      split at hc
      · simp only [Option.bind_eq_some_iff] at hc
        obtain ⟨m', hm, k', hk, x', hx, e'⟩ := hc; cases e'
        exact (insert_ok hop S hd hdk (hE mm (by simp [Op.operands]) m' hm) (hE k (by simp [Op.operands]) k' hk) (hE x (by simp [Op.operands]) x' hx) e).upon K
      · cases hc
    · cases hc
  | call c =>
    have hc0 := hc
    unfold cOp at hc; rw [hop] at hc
    dsimp only at hc
    have hargs : ∀ x ∈ c.args.toList, x ∈ o.op.operands.toList := by
      intro x hx
      rw [hop]
      simp only [Op.operands, Call.operands, Array.toList_append, List.mem_append]
      exact .inr hx
    have hget : ∀ (i : Nat) (x : Operand), c.args[i]? = some x → x ∈ o.op.operands.toList := fun i x hx => hargs x (List.mem_of_getElem? (i := i) (by simpa using hx))
    have he : execOp a.eval o = (do let d ← resolve a.eval c o.type; invoke d.target d.args) := by unfold execOp; rw [hop]
    split at hc
    · rename_i f hcal
      simp only [Option.pure_def, Option.bind_eq_bind, Option.bind_eq_some_iff] at hc
      obtain ⟨f', hf, l, hl, e'⟩ := hc; cases e'
      have hR := cOpds_R (env := env) (ρ := a.eval) (μ := μ) hl fun x hx => hE x (hargs x hx)
      have hfR := hE f (by rw [hop]; simp [Op.operands, Call.operands, hcal]) f' hf
      have e : callV X n κ (f'.val env) (l.map (·.val env)) h = some (v, h') := e
      have := hV B0 κ (f'.val env) (l.map (·.val env)) h v h' μ w (a.eval f) (c.args.toList.map a.eval) e S hfR hR o a next Q ro m K
      rw [he]
      have hres : resolve a.eval c o.type = Deferred.ofValue (a.eval f) (c.args.toList.map a.eval).toArray := by
        unfold resolve; rw [hcal]
        simp only
        congr 1
        apply Array.ext'; simp
      rw [hres]; exact this
    · rename_i r name hcal
      simp only [Option.pure_def, Option.bind_eq_bind, Option.bind_eq_some_iff] at hc
      obtain ⟨r', hr, l, hl, e'⟩ := hc; cases e'
      have hR := cOpds_R (env := env) (ρ := a.eval) (μ := μ) hl fun x hx => hE x (hargs x hx)
      have hrR := hE r (by rw [hop]; simp [Op.operands, Call.operands, hcal]) r' hr
      simp only [aOp] at e
      split at e
      · rename_i t vv hv
        rw [hv] at hrR
        split at e
        · rename_i f hm
          have hmm := T.meth t name f hm
          rw [he]
          generalize hrr : a.eval r = cr at hrR
          cases hrR with
          | @iface _ _ y hy =>
            have := hV B0 κ (.func (.func f) #[] #[]) (vv :: l.map (·.val env)) h v h' μ w (.func (.func f) #[] #[]) (y :: c.args.toList.map a.eval) e S (.fn rfl rfl (by simp) (by simp)) (.cons hy hR) o a next Q ro m K
            have hrun : (do let d ← resolve a.eval c o.type; invoke d.target d.args : Sem Next).run P w =
                (do let d ← Deferred.ofValue (.func (.func f) #[] #[]) (y :: c.args.toList.map a.eval).toArray; invoke d.target d.args : Sem Next).run P w := by
              have hdep : 0 < Made.depth := by unfold Made.depth; omega
              obtain ⟨k, hk⟩ : ∃ k, P.types.size + Made.depth = k + 1 := ⟨P.types.size + Made.depth - 1, by omega⟩
              have ha1 : (#[Value.iface t y] ++ c.args.map a.eval)[0]? = some (Value.iface t y) := by rw [← Array.getElem?_toList, Array.toList_append]; rfl
              have ha2 : (#[Value.iface t y] ++ c.args.map a.eval).extract 1 (#[Value.iface t y] ++ c.args.map a.eval).size = c.args.map a.eval := by
                apply Array.ext'
                simp only [Array.toList_extract, Array.toList_append, Array.size_append, List.extract_eq_take_drop]
                simp
                exact List.take_of_length_le (by simp)
              have ha3 : #[y] ++ c.args.map a.eval = #[] ++ (y :: c.args.toList.map a.eval).toArray ++ #[] := by apply Array.ext'; simp
              have ha0 : (c.callee = .invoke r name) := hcal
              simp only [resolve, hcal, hrr, Sem.run_bind, Sem.run_pure, Result.andThen_ok, invoke, ha1, ha2, callMethod, run_program, hk, meth_run hmm, Deferred.ofValue, ha3]
            rw [hrun]; exact this
        · cases e
      · cases e
    · rename_i b hcal
      unfold cBuiltin at hc
      split at hc
      · exact hp (by
          unfold cLen at hc
          split at hc
          · obtain ⟨_, _, e'⟩ := Option.map_eq_some_iff.1 hc; cases e'; rfl
          · obtain ⟨_, _, e'⟩ := Option.map_eq_some_iff.1 hc; cases e'; rfl
          · cases hc; rfl
          · cases hc)
      · rename_i t u ts s x xs h1 h2
        unfold cAppend at hc
        simp only [Option.pure_def, Option.bind_eq_bind, Option.bind_eq_some_iff] at hc
        obtain ⟨el, hel, k, hk, by_, hby, z, hz, hc⟩ := hc
        split at hc
        · cases hc
        · rename_i hcond
          simp only [Bool.or_eq_true, beq_iff_eq, bne_iff_ne, ne_eq, not_or, Classical.not_not, Bool.not_eq_true] at hcond
          simp only [Option.bind_eq_some_iff] at hc
          obtain ⟨s', hs, x', hx, e'⟩ := hc; cases e'
          have hs0 : c.args[0]? = some s := by rw [← Array.getElem?_toList, h2]; rfl
          have hx0 : c.args[1]? = some x := by rw [← Array.getElem?_toList, h2]; rfl
          exact (append_ok hop hcal S (by rw [← Array.getElem?_toList, h1]; rfl) (by rw [← Array.getElem?_toList, h1]; rfl) hcond.1.1.1 (sliceElem_some hel) hk hby hz hcond.1.1.2 hcond.1.2 hcond.2 hs0 hx0
            (hE s (hget 0 s hs0) s' hs) (hE x (hget 1 x hx0) x' hx) e).upon K
      · rename_i t ts s x xs h1 h2
        unfold cCopy at hc
        simp only [Option.pure_def, Option.bind_eq_bind, Option.bind_eq_some_iff] at hc
        obtain ⟨el, hel, k, hk, s', hs, x', hx, e'⟩ := hc
        cases e'
        have hs0 : c.args[0]? = some s := by rw [← Array.getElem?_toList, h2]; rfl
        have hx0 : c.args[1]? = some x := by rw [← Array.getElem?_toList, h2]; rfl
        exact (copy_ok hop hcal S (by rw [← Array.getElem?_toList, h1]; rfl) (sliceElem_some hel) hk hs0 hx0 (hE s (hget 0 s hs0) s' hs) (hE x (hget 1 x hx0) x' hx) e).upon K
      · rename_i t ts s xs h1 h2
        unfold cClear at hc
        simp only [Option.pure_def, Option.bind_eq_bind, Option.bind_eq_some_iff] at hc
        obtain ⟨el, hel, z, hz, k, hk, hc⟩ := hc
        split at hc
        · cases hc
        · rename_i hcond
          simp only [Bool.or_eq_true, beq_iff_eq, bne_iff_ne, ne_eq, not_or, Classical.not_not] at hcond
          simp only [Option.bind_eq_some_iff] at hc
          obtain ⟨s', hs, e'⟩ := hc; cases e'
          have hs0 : c.args[0]? = some s := by rw [← Array.getElem?_toList, h2]; rfl
          exact (clear_ok hop hcal S (by rw [← Array.getElem?_toList, h1]; rfl) (sliceElem_some hel) hz hcond.1 hcond.2 hs0 (hE s (hget 0 s hs0) s' hs) e).upon K
      · exact hp (by
          simp only [Option.pure_def, Option.bind_eq_bind, Option.bind_eq_some_iff] at hc
          obtain ⟨_, _, _, _, e'⟩ := hc; cases e'; rfl)
      · exact hp (by
          simp only [Option.pure_def, Option.bind_eq_bind, Option.bind_eq_some_iff] at hc
          obtain ⟨_, _, _, _, e'⟩ := hc; cases e'; rfl)
      · cases hc
  | _ => exact hp (cOp_isDop hc (by rw [hop]; intros; exact fun e => by cases e) (by rw [hop]; intros; exact fun e => by cases e) (by rw [hop]; intros; exact fun e => by cases e) (by rw [hop]; intros; exact fun e => by cases e))
end Go.AM
end

section
namespace Go.AM
variable {P : Program} {B0 : Nat × Nat} {κ : Ctx} {μ : Mu} {h : Heap} {w : World} {env : Env} {X : Tab} {n lo : Nat}
def Mk (lo : Nat) (μ : Mu) (w : World) : List Deferred → Prop
  | [] => True
  | d :: ds => ∃ r, d = { target := .collected r, args := #[] } ∧ lo ≤ r ∧ w.heap[r]? = some (.deferred (some [])) ∧ (∀ b dd nn k, μ b ≠ .at r dd nn k) ∧
      (∀ d' ∈ ds, d' ≠ { target := .collected r, args := #[] }) ∧ Mk lo μ w ds
theorem Mk.go {μ' : Mu} {h' : Heap} {w' : World} (g : Go1 P B0 κ μ h w μ' h' w') : ∀ {ds : List Deferred}, Mk lo μ w ds → Mk lo μ' w' ds
  | [], _ => trivial
  | d :: ds, hm => by
    obtain ⟨r, h1, h2, h3, h4, h5, h6⟩ := hm
    have hr := (Array.getElem?_eq_some_iff.1 h3).1
    obtain ⟨q1, q2⟩ := g.fr.cun r hr h4
    exact ⟨r, h1, h2, q1.trans h3, q2, h5, Mk.go g h6⟩
structure Fm (lo nt : Nat) (μ : Mu) (env : Env) (a : Act) (w : World) : Prop where
  env : envR μ env a.tmps
  nt : nt ≤ a.tmps.size
  mks : Mk lo μ w a.defers
  lo : lo ≤ w.heap.size
theorem envR.mono {μ' : Mu} (hle : Mu.le μ μ') {tmps : Array Value} (hE : envR μ env tmps) : envR μ' env tmps := fun t => (hE t).mono hle
theorem getD_set {tmps : Array Value} {d t : Nat} {v : Value} (hd : d < tmps.size) : (tmps.setIfInBounds d v).getD t undef = if t = d then v else tmps.getD t undef := by
  simp only [Array.getD_eq_getD_getElem?, Array.getElem?_setIfInBounds]
  by_cases ht : t = d
  · subst ht; simp [hd]
  · rw [if_neg (fun e => ht e.symm), if_neg ht]
theorem envR.put {tmps : Array Value} {d : Nat} {v cv : Value} (hE : envR μ env tmps) (hd : d < tmps.size) (hv : VR μ v cv) : envR μ (upd env d v) (tmps.setIfInBounds d cv) := by
  intro t
  rw [getD_set hd]
  unfold upd
  by_cases ht : t = d
  · simp only [ht, if_true]; exact hv
  · simp only [if_neg ht]; exact hE t
theorem Fm.put {nt : Nat} {a : Act} {dst : Option Nat} {v cv : Value} (F : Fm lo nt μ env a w) (hd : ∀ d, dst = some d → d < nt) (hv : VR μ v cv) : Fm lo nt μ (put env dst v) (a.put dst cv) w := by
  cases dst with
  | none => exact F
  | some d => exact ⟨F.env.put (Nat.lt_of_lt_of_le (hd d rfl) F.nt) hv, by simp [Act.put]; exact F.nt, F.mks, F.lo⟩
theorem Fm.go {nt : Nat} {a : Act} {μ' : Mu} {h' : Heap} {w' : World} (F : Fm lo nt μ env a w) (g : Go1 P B0 κ μ h w μ' h' w') : Fm lo nt μ' env a w' :=
  ⟨F.env.mono g.fr.le, F.nt, F.mks.go g, Nat.le_trans F.lo g.fr.csize⟩
theorem VR_bool {x : Value} {b : Bool} (hr : VR μ x (.bool b)) : x = .bool b := by cases hr; rfl
theorem cIns_inv {nt : Nat} {ops : Array Oper} {o : Oper} {i : AIns} (hc : cIns P nt ops o = some i) : cOp P o = some i.op ∧ i.dst = o.dst ∧ cGuard ops o.guard = some i.guard ∧ ∀ d, o.dst = some d → d < nt := by
  unfold cIns at hc
  split at hc
  · rename_i op g h1 h2 h3
    cases hc
    refine ⟨h1, rfl, h2, fun d hd => ?_⟩
    rw [hd] at h3
    simpa [dstOk] using h3
  · cases hc
theorem wanted_iff {ops : Array Oper} {o : Oper} {g : Option (Nat × Bool)} {tmps : Array Value} (hg : cGuard ops o.guard = some g) (hE : ∀ t w, g = some (t, w) → VR μ (env t) (tmps.getD t undef)) :
    Region.wanted o (yielded ops tmps) = wanted env g := by
  unfold cGuard at hg
  split at hg
  · rename_i hog; cases hg; simp [Region.wanted, hog, wanted]
  · rename_i j want hog
    split at hg
    · rename_i d hd
      cases hg
      have hv := hE d want rfl
      have hy : yielded ops tmps j = match tmps[d]? with | some (.bool b) => some b | _ => none := by
        unfold yielded
        rw [hd]
        rfl
      simp only [Region.wanted, hog, hy, wanted]
      rw [Array.getD_eq_getD_getElem?] at hv
      generalize tmps[d]? = q at hv ⊢
      generalize env d = x at hv ⊢
      cases q with
      | none => cases hv; rfl
      | some u =>
        simp only [Option.getD_some] at hv
        cases hv <;> first | rfl | (rename_i b; cases b <;> cases want <;> rfl)
    · cases hg
theorem ins_ok (T : TabOK P X) (hV : VOK P X n) {nt : Nat} {ops : Array Oper} {j : Nat} {o : Oper} {i : AIns} {vo : Option Value} {env' : Env} {h' : Heap} (hj : ops[j]? = some o) (hc : cIns P nt ops o = some i)
    (e : aIns (callV X n κ) X.meth κ i env h = some (vo, env', h')) (S : St P B0 κ μ h w) {a : Act} (F : Fm lo nt μ env a w) {next : Act → World → Prop} {Q : Exit → Act → World → Prop} {ro : Option Nat} {m : Nat}
    (K : ∀ μ' a' w', Go1 P B0 κ μ h w μ' h' w' → Fm lo nt μ' env' a' w' → a'.defers = a.defers → next a' w') : wpOpIn (FW ro) m P ops Q j next a w := by
  obtain ⟨hop, hdst, hgd, hlt⟩ := cIns_inv hc
  have hw := wanted_iff (μ := μ) (env := env) (tmps := a.tmps) hgd fun t _ _ => F.env t
  unfold wpOpIn
  rw [hj]
  simp only [hw]
  unfold aIns at e
  by_cases hwt : wanted env i.guard = true
  · rw [if_pos hwt] at e ⊢
    split at e
    · rename_i v h2 hv
      cases e
      refine ⟨fun _ _ => trivial, ?_⟩
      rw [show (FW ro).round = ro from rfl, Oper.semAt_eq]
      · refine op_ok T hV hop hv S (fun x _ y hy => opd_of_env F.env x y hy) fun μ' w' cv g hr => ?_
        have hF := (F.go g).put hlt hr
        rw [← hdst] at hF ⊢
        exact K μ' _ w' g hF (by cases i.dst <;> rfl)
      · intro c hcd
        unfold cOp at hop; rw [hcd] at hop; cases hop
    · cases e
  · rw [if_neg hwt] at e ⊢
    cases e
    refine ⟨fun _ _ => trivial, ?_⟩
    have hF := F.put hlt (undef_VR (μ := μ))
    rw [← hdst] at hF ⊢
    exact K μ _ w (.refl S) hF (by cases i.dst <;> rfl)
theorem cIs_get {nt : Nat} {ops : Array Oper} : ∀ {l : List Oper} {is : List AIns}, cIs P nt ops l = some is → is.length = l.length ∧ ∀ (j : Nat) (o : Oper), l[j]? = some o → ∃ i : AIns, is[j]? = some i ∧ cIns P nt ops o = some i
  | [], is, e => by simp only [cIs] at e; cases e; exact ⟨rfl, by simp⟩
  | o :: os, is, e => by
    simp only [cIs] at e
    split at e
    · rename_i i is' h1 h2
      cases e
      obtain ⟨q1, q2⟩ := cIs_get h2
      refine ⟨by simp [q1], fun j o' hj => ?_⟩
      cases j with
      | zero => simp at hj; subst hj; exact ⟨i, rfl, h1⟩
      | succ j => simp at hj; obtain ⟨i', h3, h4⟩ := q2 j o' hj; exact ⟨i', by simpa using h3, h4⟩
    · cases e
theorem reg_ok (T : TabOK P X) (hV : VOK P X n) {nt : Nat} {ops : Array Oper} {is : List AIns} (hc : cIs P nt ops ops.toList = some is) {Q : Exit → Act → World → Prop} {ro : Option Nat} {m : Nat} :
    ∀ (k j : Nat) (env : Env) (h : Heap) (env' : Env) (h' : Heap) (μ : Mu) (a : Act) (w : World), j + k = ops.size → aReg (callV X n κ) X.meth κ (is.drop j) env h = some (env', h') →
      St P B0 κ μ h w → Fm lo nt μ env a w → (∀ μ' a' w', Go1 P B0 κ μ h w μ' h' w' → Fm lo nt μ' env' a' w' → a'.defers = a.defers → Q .normal a' w') →
      wpOpsIn (FW ro) m P ops Q (List.range' j k) a w
  | 0, j, env, h, env', h', μ, a, w, hjk, e, S, F, K => by
    obtain ⟨q1, q2⟩ := cIs_get hc
    have : is.drop j = [] := List.drop_eq_nil_of_le (by rw [q1]; simp; omega)
    rw [this] at e
    simp only [aReg] at e; cases e
    exact K μ a w (.refl S) F rfl
  | k + 1, j, env, h, env', h', μ, a, w, hjk, e, S, F, K => by
    obtain ⟨q1, q2⟩ := cIs_get hc
    have hjs : j < ops.size := by omega
    obtain ⟨i, hi, hci⟩ := q2 j ops[j] (by simp [hjs])
    have hd : is.drop j = i :: is.drop (j + 1) := by
      have hlt : j < is.length := (List.getElem?_eq_some_iff.1 hi).1
      rw [List.drop_eq_getElem_cons hlt]
      congr 1
      have := (List.getElem?_eq_some_iff.1 hi).2; exact this
    rw [hd] at e
    simp only [aReg] at e
    split at e
    · rename_i vo env2 h2 he
      rw [show List.range' j (k + 1) = j :: List.range' (j + 1) k from rfl, wpOpsIn_cons]
      refine ins_ok T hV (by simp [hjs]) hci he S F fun μ' a' w' g F' hd' => ?_
      exact reg_ok T hV hc k (j + 1) env2 h2 env' h' μ' a' w' (by omega) e g.st F' fun μ'' a'' w'' g' F'' hd'' => K μ'' a'' w'' (g.trans g') F'' (hd''.trans hd')
    · cases e
end Go.AM
end
