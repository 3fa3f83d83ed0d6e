import Derived.Test.YtlgbeekhaoiggaaAmA
import Derived.Laws.StructEq
import Derived.Laws.BytesString
import Derived.Laws.Slices
set_option linter.all false
section
namespace Go.AM
variable {P : Program} {B0 : Nat × Nat} {κ : Ctx} {μ : Mu} {h : Heap} {w : World}
theorem run_ty {t : TypeId} {d : TypeDesc} (e : P.underlying t = some d) (w : World) : (underlying t).run P w = .ok d w := by
  simp [underlying, e]
theorem run_info {t : TypeId} {i : TypeInfo} (e : P.info? t = some i) (w : World) : (typeInfo t).run P w = .ok i w := by
  simp [typeInfo, e]
theorem run_size {t : TypeId} {n : Nat} (e : tySize P t = some n) (w : World) : (sizeOf t).run P w = .ok n w := by
  unfold tySize at e
  cases hi : P.info? t with
  | none => rw [hi] at e; cases e
  | some i => rw [hi] at e; cases e; simp [sizeOf, run_info hi]
theorem run_agg {t : TypeId} {b : Bool} (e : tyAgg P t = some b) (w : World) : (isAgg t).run P w = .ok b w := by
  unfold tyAgg at e
  cases hd : P.underlying t with
  | none => rw [hd] at e; cases e
  | some d => rw [hd] at e; cases e; simp only [isAgg, Sem.run_bind, run_ty hd, Result.andThen_ok]; cases d <;> rfl
theorem run_zero {t : TypeId} {v : Value} (e : (P.info? t).bind (·.zero) = some v) (w : World) : (zeroValue t).run P w = .ok v w := by
  cases hi : P.info? t with
  | none => rw [hi] at e; cases e
  | some i =>
    rw [hi] at e
    have e : i.zero = some v := e
    simp [zeroValue, run_info hi, e]
theorem run_bytes {t : TypeId} {n : Nat} (e : tyBytes P t = some n) : ∃ i, P.info? t = some i ∧ i.bytes = n := by
  unfold tyBytes at e
  cases hi : P.info? t with
  | none => rw [hi] at e; cases e
  | some i => rw [hi] at e; cases e; exact ⟨i, rfl, rfl⟩
theorem const1_VR {v : Value} (hv : const1 v = true) : VR μ v v := by
  cases v with
  | bool b => exact .bool b
  | int k n => exact .int k n
  | string s => exact .string s
  | nilFunc => exact .nilFunc
  | nilIface => exact .nilIface
  | pointer a => cases a with
    | none => exact .ptrNil
    | some a => simp [const1] at hv
  | map r => cases r with
    | none => exact .mapNil
    | some a => simp [const1] at hv
  | slice a n c => cases a with
    | none => simp [const1] at hv; obtain ⟨rfl, rfl⟩ := hv; exact .slNil
    | some a => simp [const1] at hv
  | func f a b => cases f with
    | func f => simp [const1] at hv; obtain ⟨rfl, rfl⟩ := hv; exact .fn rfl rfl (by simp) (by simp)
    | _ => simp [const1] at hv
  | _ => simp [const1] at hv
theorem consts_VRs {l : List Value} (hv : l.all const1 = true) : VRs μ l l := by
  refine ⟨rfl, fun i x y hx hy => ?_⟩
  rw [hx] at hy; cases hy
  exact const1_VR (List.all_eq_true.1 hv x (List.mem_of_getElem? hx))
theorem const_VR {v : Value} (hv : constOk v = true) : VR μ v v := by
  cases v with
  | agg cs => have := consts_VRs (μ := μ) (l := cs.toList) (by simpa [constOk] using hv); exact this.agg
  | tuple cs => have := consts_VRs (μ := μ) (l := cs.toList) (by simpa [constOk] using hv); exact this.tuple
  | _ => exact const1_VR (by simpa [constOk] using hv)
def opdR (μ : Mu) (env : Env) (ρ : Operand → Value) (l : List Operand) : Prop := ∀ x ∈ l, ∀ y, cOpd x = some y → VR μ (y.val env) (ρ x)
theorem opd_of_env {env : Env} {a : Act} (hE : envR μ env a.tmps) (x : Operand) (y : Opd) (hy : cOpd x = some y) : VR μ (y.val env) (a.eval x) := by
  cases x with
  | tmp t => cases hy; exact hE t
  | const v =>
    simp only [cOpd] at hy
    split at hy
    · rename_i hc; cases hy; exact const_VR hc
    · cases hy
  | global g => cases hy
  | func f => cases hy; exact .fn rfl rfl (by simp) (by simp)
theorem cell_add {p : Addr} {cc : Array Value} {e : TypeId} {fz : Nat × Nat} (hs : p.spot = none) (hc : w.heap[p.block]? = some (.cells cc e fz)) (j : Nat) :
    w.cell? (p.add j) = cc[p.off + j]? := by
  unfold Addr.add
  by_cases hj : j = 0
  · subst hj; simp [World.cell?, hc, hs]
  · simp [hj, World.cell?, hc]
theorem cell_at {p : Addr} {cc : Array Value} {e : TypeId} {fz : Nat × Nat} (hs : p.spot = none) (hc : w.heap[p.block]? = some (.cells cc e fz)) :
    w.cell? p = cc[p.off]? := by simp [World.cell?, hc, hs]
theorem cellsAt_some {b : Nat} {c : List Value} (e : h.cellsAt b = some c) : ∃ t, h[b]? = some (.cells c t) := by
  unfold Heap.cellsAt at e
  split at e
  · rename_i c' t hb; cases e; exact ⟨t, hb⟩
  · cases e
theorem HR.cells (H : HR P B0 μ h w) {b c d n k : Nat} {l : List Value} {t : TypeId} (e : μ b = .at c d n k) (hb : h[b]? = some (.cells l t)) :
    ∃ cc t' fz, w.heap[c]? = some (.cells cc t' fz) ∧ cc.size = n ∧ d + l.length ≤ n ∧ ((b < B0.1 ∨ own1 P l t t' fz d n) ∧ k = P.cellsOf t) ∧
      ∀ (i : Nat) (v : Value), l[i]? = some v → ∃ u, cc[d + i]? = some u ∧ VR μ v u := by
  obtain ⟨x, o, hx, ho, hr⟩ := H.obj b c d n k e
  rw [hb] at hx; cases hx
  cases o with
  | cells cc t' fz => exact ⟨cc, t', fz, ho, hr.1, hr.2.1, ⟨hr.2.2.1, hr.2.2.2.1⟩, hr.2.2.2.2⟩
  | _ => exact hr.elim
theorem grab_some {l r : List Value} {o n : Nat} (e : grab l o n = some r) : o + n ≤ l.length ∧ r = (l.drop o).take n := by
  unfold grab at e
  split at e
  · cases e; exact ⟨by assumption, rfl⟩
  · cases e
theorem cells_from {cc : Array Value} {l : List Value} {d o n : Nat} (h1 : ∀ (i : Nat) (v : Value), l[i]? = some v → ∃ u, cc[d + i]? = some u ∧ VR μ v u) (h2 : o + n ≤ l.length) :
    ∃ us : List Value, us.length = n ∧ VRs μ ((l.drop o).take n) us ∧ ∀ j u, us[j]? = some u → cc[d + o + j]? = some u := by
  refine ⟨(List.range n).map fun j => (cc[d + o + j]?).getD undef, by simp, ⟨by simp; omega, fun i x y hx hy => ?_⟩, fun j u hu => ?_⟩
  · rw [List.getElem?_take] at hx
    split at hx
    · rename_i hi
      rw [List.getElem?_drop] at hx
      obtain ⟨u, hu, hr⟩ := h1 _ _ hx
      simp [hi] at hy
      rw [show d + o + i = d + (o + i) by omega, hu] at hy
      simp at hy; exact hy ▸ hr
    · cases hx
  · have hj : j < n := by have := (List.getElem?_eq_some_iff.1 hu).1; simpa using this
    obtain ⟨u', hu', _⟩ := h1 (o + j) (l[o + j]'(by omega)) (by simp)
    simp [hj] at hu
    rw [show d + o + j = d + (o + j) by omega, hu'] at hu ⊢
    simpa using hu
theorem rd1_ok (H : HR P B0 μ h w) {a ca v : Value} (hr : VR μ a ca) (e : rd1 h a = some v) :
    ∃ p u, ca = .pointer (some p) ∧ p.spot = none ∧ w.cell? p = some u ∧ VR μ v u := by
  cases hr with
  | ptr hb =>
    simp only [rd1, Option.isSome_none, Bool.false_eq_true, if_false] at e
    obtain ⟨c, hc, e⟩ := Option.bind_eq_some_iff.1 e
    obtain ⟨t, ht⟩ := cellsAt_some hc
    obtain ⟨cc, t', fz, h1, h2, h3, h4, h5⟩ := H.cells hb ht
    obtain ⟨u, hu, hr⟩ := h5 _ _ e
    refine ⟨_, u, rfl, rfl, ?_, hr⟩
    rw [cell_at (e := t') (fz := fz) (cc := cc) rfl h1, Nat.add_comm]; exact hu
  | ptrDead hb =>
    simp only [rd1, Option.isSome_none, Bool.false_eq_true, if_false] at e
    obtain ⟨c, hc, e⟩ := Option.bind_eq_some_iff.1 e
    obtain ⟨t, ht⟩ := cellsAt_some hc
    rw [H.dead _ hb] at ht; cases ht
  | _ => simp [rd1] at e
theorem rdN_ok (H : HR P B0 μ h w) {n : Nat} {a ca v : Value} (hr : VR μ a ca) (e : rdN h n a = some v) :
    ∃ (p : Addr) (us : List Value), ca = .pointer (some p) ∧ (loadCells p n).run P w = .ok us.toArray w ∧ VR μ v (.agg us.toArray) := by
  cases hr with
  | ptr hb =>
    simp only [rdN, Option.isSome_none, Bool.false_eq_true, if_false] at e
    obtain ⟨c, hc, e⟩ := Option.bind_eq_some_iff.1 e
    obtain ⟨l, hl, rfl⟩ := Option.map_eq_some_iff.1 e
    obtain ⟨hn, rfl⟩ := grab_some hl
    obtain ⟨t, ht⟩ := cellsAt_some hc
    obtain ⟨cc, t', fz, h1, h2, h3, h4, h5⟩ := H.cells hb ht
    obtain ⟨us, hlen, hrs, hget⟩ := cells_from h5 hn
    refine ⟨_, us, rfl, ?_, hrs.agg⟩
    rw [← hlen]
    refine run_loadCells_list w _ _ fun j v hj => ?_
    rw [cell_add (e := t') (fz := fz) (cc := cc) rfl h1, ← hget j v hj]
    congr 1; simp only []; omega
  | ptrDead hb =>
    simp only [rdN, Option.isSome_none, Bool.false_eq_true, if_false] at e
    obtain ⟨c, hc, e⟩ := Option.bind_eq_some_iff.1 e
    obtain ⟨t, ht⟩ := cellsAt_some hc
    rw [H.dead _ hb] at ht; cases ht
  | _ => simp [rdN] at e
end Go.AM
end

section
namespace Go.AM
variable {P : Program} {B0 : Nat × Nat} {κ : Ctx} {μ : Mu} {h : Heap} {w : World}
theorem binI_ok {op : BinOp} {k : IntKind} {m n : Int} {t : TypeId} {v : Value} (hs : op ≠ .shl) (hs' : op ≠ .shr) (e : binI op k m n = some v) :
    (binOp op t (.int k m) (.int k n)).run P w = .ok v w ∧ VR μ v v := by
  have hb : binOp op t (.int k m) (.int k n) = match op with
      | .add | .sub | .mul => Op.intArith op k m n
      | .quo | .rem => Op.intDiv op k m n
      | .and | .or | .xor | .andNot => Op.intBits op k m n
      | _ => Op.intCmp op m n := by
    cases op <;> first | rfl | exact absurd rfl hs | exact absurd rfl hs' | simp [binOp]
  rw [hb]
  cases op with
  | shl => exact absurd rfl hs
  | shr => exact absurd rfl hs'
  | quo =>
    simp only [binI] at e
    split at e
    · cases e
    · cases e; rename_i hz; exact ⟨by simp [Op.intDiv, hz], .int _ _⟩
  | rem =>
    simp only [binI] at e
    split at e
    · cases e
    · cases e; rename_i hz; exact ⟨by simp [Op.intDiv, hz], .int _ _⟩
  | _ => simp only [binI] at e; cases e; first | exact ⟨rfl, .int _ _⟩ | exact ⟨rfl, .bool _⟩
theorem binS_ok {op : BinOp} {a b : ByteArray} {t : TypeId} {v : Value} (e : binS op a b = some v) :
    (binOp op t (.string a) (.string b)).run P w = .ok v w ∧ VR μ v v := by
  have hb : binOp op t (.string a) (.string b) = Op.stringOp op a b := by cases op <;> rfl
  rw [hb]
  cases op with
  | add =>
    simp only [binS] at e
    split at e
    · cases e
    · cases e; rename_i hz; exact ⟨by simp only [Op.stringOp, if_neg hz, Sem.run_pure], .string _⟩
  | _ => simp only [binS] at e; cases e <;> exact ⟨rfl, .bool _⟩
theorem binV_ok {op : BinOp} {t : TypeId} {x y : Operand} {a b ca cb v : Value} (ha : VR μ a ca) (hb : VR μ b cb) (e : binV op a b = some v) :
    (do eqGuard op t x y ca cb; binOp op t ca cb : Sem Value).run P w = .ok v w ∧ VR μ v v := by
  unfold binV at e
  split at e
  · rename_i k m k' n
    cases ha; cases hb
    have hg : (eqGuard op t x y (.int k m) (.int k' n)).run P w = .ok () w := by cases op <;> rfl
    simp only [Sem.run_bind, hg, Result.andThen_ok]
    split at e
    · split at e
      · cases e
      · cases e; rename_i hk; exact ⟨by simp [binOp, Op.shift, hk], .int _ _⟩
    · split at e
      · cases e
      · cases e; rename_i hk; exact ⟨by simp [binOp, Op.shift, hk], .int _ _⟩
    · rename_i h1 h2
      split at e
      · rename_i hk; subst hk
        exact binI_ok (fun q => h1 (by rw [q])) (fun q => h2 (by rw [q])) e
      · cases e
  · rename_i s s'
    cases ha; cases hb
    have hg : (eqGuard op t x y (.string s) (.string s')).run P w = .ok () w := by cases op <;> rfl
    simp only [Sem.run_bind, hg, Result.andThen_ok]
    exact binS_ok e
  · cases e
theorem unV_ok {op : UnOp} {a ca v : Value} (ha : VR μ a ca) (e : unV op a = some v) : (Op.unary op ca).run P w = .ok v w ∧ VR μ v v := by
  unfold unV at e
  split at e
  · cases ha
    cases op <;> simp only at e <;> cases e <;> exact ⟨rfl, .int _ _⟩
  · cases ha
    cases op <;> simp only at e <;> cases e <;> exact ⟨rfl, .bool _⟩
  · cases e
theorem bytes_beq (a b : ByteArray) : (a == b) = (a.toList == b.toList) := beq_toListBytes a b
theorem eqK_leaf {t : TypeId} {k : EqK} {a b ca cb : Value} {r : Bool} (d : Nat) (ht : eqLeaf P t = some k) (ha : VR μ a ca) (hb : VR μ b cb) (e : eqK k a b = some r) :
    (Op.equalIn (d + 1) t ca cb).run P w = .ok r w := by
  unfold eqLeaf at ht
  have hrun : ∀ {D : TypeDesc} (hu : P.underlying t = some D) (s : TypeDesc → Sem Bool), (underlying t >>= s).run P w = (s D).run P w := fun hu s => by
    simp only [Sem.run_bind, run_ty hu, Result.andThen_ok]
  split at ht <;> cases ht <;> rename_i hu <;> unfold Op.equalIn <;> rw [hrun hu] <;> clear hrun <;> cases ha <;> (try (exact absurd (show (none : Option Bool) = some r from e) (by simp))) <;> cases hb <;>
    first | (exact absurd (show (none : Option Bool) = some r from e) (by simp)) | (cases e; rfl)
theorem run_part1 {t : TypeId} {cs : Array Value} {off : Nat} {v : Value} (ht : tyAgg P t = some false) (hv : cs.toList[off]? = some v) :
    (part t cs off).run P w = .ok v w := by
  have hv' : cs[off]? = some v := by simpa using hv
  simp [part, run_agg ht, hv']
theorem run_partN {t : TypeId} {cs : Array Value} {off n : Nat} (ht : tyAgg P t = some true) (hn : tySize P t = some n) :
    (part t cs off).run P w = .ok (.agg (cs.extract off (off + n))) w := by
  simp [part, run_agg ht, run_size hn]
theorem extract_toList (cs : Array Value) (off n : Nat) : (cs.extract off (off + n)).toList = (cs.toList.drop off).take n := by
  simp
theorem eqs_append : ∀ {ks ks' : List EqK} {l m : List Value} {r : Bool}, eqs (ks ++ ks') l m = some r →
    (eqs ks (l.take ks.length) (m.take ks.length) = some false ∧ r = false) ∨ (eqs ks (l.take ks.length) (m.take ks.length) = some true ∧ eqs ks' (l.drop ks.length) (m.drop ks.length) = some r)
  | [], ks', l, m, r, e => .inr ⟨rfl, by simpa using e⟩
  | k :: ks, ks', [], m, r, e => by simp [eqs] at e
  | k :: ks, ks', a :: l, [], r, e => by simp [eqs] at e
  | k :: ks, ks', a :: l, b :: m, r, e => by
    simp only [List.cons_append, eqs, List.length_cons, List.take_succ_cons, List.drop_succ_cons] at e ⊢
    split at e
    · rename_i hk; exact eqs_append e
    · rename_i hk; cases e; exact .inl ⟨rfl, rfl⟩
    · cases e
theorem eqs_length : ∀ {ks : List EqK} {l m : List Value}, eqs ks l m = some true → l.length = ks.length ∧ m.length = ks.length
  | [], [], [], _ => ⟨rfl, rfl⟩
  | [], [], b :: m, e => by simp [eqs] at e
  | [], a :: l, m, e => by simp [eqs] at e
  | k :: ks, [], m, e => by simp [eqs] at e
  | k :: ks, a :: l, [], e => by simp [eqs] at e
  | k :: ks, a :: l, b :: m, e => by
    simp only [eqs] at e
    split at e
    · have := eqs_length e; simp [this.1, this.2]
    · cases e
    · cases e
theorem fieldsOf_eq {t : TypeId} {fs : Array Field} (hu : P.underlying t = some (.struct fs)) : P.fieldsOf t = fs := by simp [Program.fieldsOf, hu]
def EqAt (P : Program) (w : World) (μ : Mu) (D : Nat) (t : TypeId) (ks : List EqK) : Prop :=
  (∃ k, ks = [k] ∧ tyAgg P t = some false ∧ ∀ a b ca cb r, VR μ a ca → VR μ b cb → eqK k a b = some r → (Op.equalIn D t ca cb).run P w = .ok r w) ∨
  (tyAgg P t = some true ∧ ∀ l m cl cm r, VRs μ l cl → VRs μ m cm → eqs ks l m = some r → (Op.equalIn D t (.agg cl.toArray) (.agg cm.toArray)).run P w = .ok r w)
theorem eqFields_ok {D : Nat} {f : TypeId → Option (List EqK)} (hf : ∀ t ks, f t = some ks → EqAt P w μ D t ks) :
    ∀ (fs : List Field) (off : Nat) (ks : List EqK) (l m cl cm : List Value) (r : Bool), eqFields P f fs off = some ks → VRs μ l cl → VRs μ m cm → eqs ks (l.drop off) (m.drop off) = some r →
      (Op.eqFields D cl.toArray cm.toArray fs).run P w = .ok r w
  | [], off, ks, l, m, cl, cm, r, e, hl, hm, hr => by
    simp only [eqFields] at e; cases e
    cases h1 : l.drop off <;> cases h2 : m.drop off <;> rw [h1, h2] at hr <;> simp [eqs] at hr
    subst hr; rfl
  | x :: xs, off, ks, l, m, cl, cm, r, e, hl, hm, hr => by
    simp only [eqFields] at e
    split at e
    · rename_i hx
      simp only [Bool.and_eq_true, bne_iff_ne, ne_eq, beq_iff_eq] at hx
      obtain ⟨hx1, hx2⟩ := hx
      split at e
      · rename_i k1 hk1
        split at e
        · rename_i hsz
          simp only [beq_iff_eq] at hsz
          obtain ⟨k2, hk2, rfl⟩ := Option.map_eq_some_iff.1 e
          have hfx := hf _ _ hk1
          have hcases := eqs_append hr
          rw [List.drop_drop, List.drop_drop] at hcases
          have key : ∀ r1, eqs k1 ((l.drop off).take k1.length) ((m.drop off).take k1.length) = some r1 →
              (do let a ← part x.type cl.toArray x.offset; let b ← part x.type cm.toArray x.offset; Op.equalIn D x.type a b : Sem Bool).run P w = .ok r1 w := by
            intro r1 hr1
            rcases hfx with ⟨k, rfl, hag, hk⟩ | ⟨hag, hk⟩
            · cases hl1 : l.drop off with
              | nil => rw [hl1] at hr1; simp [eqs] at hr1
              | cons a l' =>
                cases hm1 : m.drop off with
                | nil => rw [hm1, hl1] at hr1; simp [eqs] at hr1
                | cons b m' =>
                  rw [hl1, hm1] at hr1
                  simp only [List.length_singleton, List.take_succ_cons, List.take_zero, eqs] at hr1
                  have hkr : eqK k a b = some r1 := by
                    cases hq : eqK k a b with
                    | none => rw [hq] at hr1; simp at hr1
                    | some q => rw [hq] at hr1; cases q <;> simp at hr1 <;> rw [← hr1]
                  have ha : l[off]? = some a := by have := congrArg (fun z => z[0]?) hl1; simpa using this
                  have hb : m[off]? = some b := by have := congrArg (fun z => z[0]?) hm1; simpa using this
                  obtain ⟨ca, hca, hra⟩ := hl.get ha
                  obtain ⟨cb, hcb, hrb⟩ := hm.get hb
                  simp only [Sem.run_bind, run_part1 hag (off := x.offset) (cs := cl.toArray) (v := ca) (by rw [hx2]; simpa using hca),
                    run_part1 hag (off := x.offset) (cs := cm.toArray) (v := cb) (by rw [hx2]; simpa using hcb), Result.andThen_ok]
                  exact hk a b ca cb r1 hra hrb hkr
            · simp only [Sem.run_bind, run_partN hag hsz, Result.andThen_ok]
              have := hk ((l.drop off).take k1.length) ((m.drop off).take k1.length) ((cl.drop off).take k1.length) ((cm.drop off).take k1.length) r1 ((hl.drop off).take _) ((hm.drop off).take _) hr1
              rw [hx2]
              have e1 : cl.toArray.extract off (off + k1.length) = ((cl.drop off).take k1.length).toArray := by apply Array.ext'; simp
              have e2 : cm.toArray.extract off (off + k1.length) = ((cm.drop off).take k1.length).toArray := by apply Array.ext'; simp
              rw [e1, e2]; exact this
          rcases hcases with ⟨h1, rfl⟩ | ⟨h1, h2⟩
          · have := key false h1
            simp only [Sem.run_bind] at this
            simp only [Op.eqFields, if_pos hx1, Sem.run_bind]
            generalize (part x.type cl.toArray x.offset).run P w = q1 at this ⊢
            cases q1 with
            | halt hh ww => simp at this
            | ok a1 w1 =>
              simp only [Result.andThen_ok] at this ⊢
              generalize (part x.type cm.toArray x.offset).run P w1 = q2 at this ⊢
              cases q2 with
              | halt hh ww => simp at this
              | ok a2 w2 =>
                simp only [Result.andThen_ok] at this ⊢
                rw [this]; simp
          · have := key true h1
            simp only [Sem.run_bind] at this
            simp only [Op.eqFields, if_pos hx1, Sem.run_bind]
            generalize (part x.type cl.toArray x.offset).run P w = q1 at this ⊢
            cases q1 with
            | halt hh ww => simp at this
            | ok a1 w1 =>
              simp only [Result.andThen_ok] at this ⊢
              generalize (part x.type cm.toArray x.offset).run P w1 = q2 at this ⊢
              cases q2 with
              | halt hh ww => simp at this
              | ok a2 w2 =>
                simp only [Result.andThen_ok] at this ⊢
                rw [this]
                simp only [Result.andThen_ok, Bool.not_true, Bool.false_eq_true, if_false]
                exact eqFields_ok hf xs (off + k1.length) k2 l m cl cm r hk2 hl hm h2
        · cases e
      · cases e
    · cases e
theorem tyAgg_of {t : TypeId} {d : TypeDesc} (hu : P.underlying t = some d) : tyAgg P t = some (descAgg d) := by
  unfold tyAgg; rw [hu]; rfl
theorem eqKinds_ok (d : Nat) : ∀ (D : Nat) (t : TypeId) (ks : List EqK), d ≤ D → eqKinds P d t = some ks → EqAt P w μ D t ks := by
  induction d with
  | zero => intro D t ks hD e; unfold eqKinds at e; cases e
  | succ d ih =>
    intro D t ks hD e
    obtain ⟨D, rfl⟩ : ∃ D', D = D' + 1 := ⟨D - 1, by omega⟩
    unfold eqKinds at e
    split at e
    · rename_i hu; cases e
      refine .inl ⟨_, rfl, by rw [tyAgg_of hu]; rfl, fun a b ca cb r ha hb hk => ?_⟩
      cases a <;> try (exact absurd (show (none : Option Bool) = some r from hk) (by simp))
      cases b <;> try (exact absurd (show (none : Option Bool) = some r from hk) (by simp))
      cases ha; cases hb; cases hk
      unfold Op.equalIn; simp only [Sem.run_bind, run_ty hu, Result.andThen_ok, Sem.run_pure]
    · rename_i hu; cases e
      refine .inl ⟨_, rfl, by rw [tyAgg_of hu]; rfl, fun a b ca cb r ha hb hk => ?_⟩
      cases a <;> try (exact absurd (show (none : Option Bool) = some r from hk) (by simp))
      cases b <;> try (exact absurd (show (none : Option Bool) = some r from hk) (by simp))
      cases ha; cases hb
      rename_i k1 n1 k2 n2
      have hk : (if k1 = k2 then some (n1 == n2) else none) = some r := hk
      split at hk
      · rename_i hkk; cases hk
        unfold Op.equalIn; simp only [Sem.run_bind, run_ty hu, Result.andThen_ok, if_pos hkk, Sem.run_pure]
      · cases hk
    · rename_i hu; cases e
      refine .inl ⟨_, rfl, by rw [tyAgg_of hu]; rfl, fun a b ca cb r ha hb hk => ?_⟩
      cases a <;> try (exact absurd (show (none : Option Bool) = some r from hk) (by simp))
      cases b <;> try (exact absurd (show (none : Option Bool) = some r from hk) (by simp))
      cases ha; cases hb; cases hk
      unfold Op.equalIn; simp only [Sem.run_bind, run_ty hu, Result.andThen_ok, Sem.run_pure, bytes_beq]
    · rename_i fs hu
      split at e
      · cases e
      · rename_i hst
        refine .inr ⟨by rw [tyAgg_of hu]; rfl, fun l m cl cm r hl hm hr => ?_⟩
        have hfo := fieldsOf_eq hu
        rw [run_equalIn_struct w D t _ _ (by rw [hfo]; exact hu) (by simpa using hst), hfo]
        exact eqFields_ok (fun t ks ht => ih D t ks (by omega) ht) fs.toList 0 ks l m cl cm r e hl hm (by simpa using hr)
    · cases e
end Go.AM
end

section
namespace Go.AM
variable {P : Program} {B0 : Nat × Nat} {κ : Ctx} {μ : Mu} {h : Heap} {w : World} {env : Env} {ρ : Operand → Value}
def ExV (P : Program) (w : World) (μ : Mu) (s : Sem Next) (v : Value) : Prop := ∃ cv, s.run P w = .ok (.value cv) w ∧ VR μ v cv
theorem ExV.of {s : Sem Value} {v cv : Value} (hr : s.run P w = .ok cv w) (hv : VR μ v cv) : ExV P w μ (do pure (.value (← s))) v :=
  ⟨cv, by simp [hr], hv⟩
theorem bound_ok {x : Option Value} {cx : Option Value} {dflt top i : Nat} (_code : BoundsCode) (hx : (x = none ∧ cx = none) ∨ ∃ a b, x = some a ∧ cx = some b ∧ VR μ a b)
    (e : bound x dflt top = some i) : (x = none ∧ cx = none ∧ i = dflt) ∨ (∃ k n, x = some (.int k n) ∧ cx = some (.int k n) ∧ 0 ≤ n ∧ n ≤ top ∧ i = n.toNat) := by
  rcases hx with ⟨rfl, rfl⟩ | ⟨a, b, rfl, rfl, hr⟩
  · simp only [bound] at e; cases e; exact .inl ⟨rfl, rfl, rfl⟩
  · cases hr with
    | int k n =>
      simp only [bound] at e
      split at e
      · rename_i hb; cases e; exact .inr ⟨k, n, rfl, rfl, hb.1, hb.2, rfl⟩
      · cases e
    | _ => simp [bound] at e
theorem optOpd_R {x : Option Operand} {y : Option Opd} (hy : optOpd x = some y) (hE : ∀ z ∈ x.toList, ∀ u, cOpd z = some u → VR μ (u.val env) (ρ z)) :
    (y.map (·.val env) = none ∧ x.map ρ = none) ∨ ∃ a b, y.map (·.val env) = some a ∧ x.map ρ = some b ∧ VR μ a b := by
  cases x with
  | none => simp only [optOpd] at hy; cases hy; exact .inl ⟨rfl, rfl⟩
  | some z =>
    simp only [optOpd, Option.map_eq_some_iff] at hy
    obtain ⟨u, hu, rfl⟩ := hy
    exact .inr ⟨_, _, rfl, rfl, hE z (by simp) u hu⟩
theorem run_bound_ok {k : IntKind} {n : Int} {top : Nat} {code : BoundsCode} (h0 : 0 ≤ n) (h1 : n ≤ top) : (Instr.sliceBound (.int k n) top code).run P w = .ok n.toNat w :=
  run_sliceBound w k n top code h0 h1
theorem bounds_ok {isS : Bool} {len c c' l j m : Nat} {lo hi mx lo' hi' mx' : Option Value}
    (hlo : (lo = none ∧ lo' = none) ∨ ∃ a b, lo = some a ∧ lo' = some b ∧ VR μ a b)
    (hhi : (hi = none ∧ hi' = none) ∨ ∃ a b, hi = some a ∧ hi' = some b ∧ VR μ a b)
    (hmx : (mx = none ∧ mx' = none) ∨ ∃ a b, mx = some a ∧ mx' = some b ∧ VR μ a b)
    (hlen : len ≤ c) (hc : c ≤ c') (em : bound mx c c = some m) (ej : bound hi len m = some j) (el : bound lo 0 j = some l) (hmh : mx.isSome = true → hi.isSome = true) :
    ∃ m', (Instr.sliceBounds isS len c' lo' hi' mx').run P w = .ok (l, j, m') w ∧ m ≤ m' ∧ l ≤ j ∧ j ≤ m ∧ (m' = c' ∧ m = c ∨ m' = m) := by
  have hl := bound_ok .sliceB hlo el
  have hj := bound_ok .sliceB hhi ej
  have hm := bound_ok .sliceB hmx em
  rcases hm with ⟨rfl, rfl, rfl⟩ | ⟨km, nm, rfl, rfl, hm0, hm1, rfl⟩
  · rcases hj with ⟨rfl, rfl, rfl⟩ | ⟨kj, nj, rfl, rfl, hj0, hj1, rfl⟩
    · rcases hl with ⟨rfl, rfl, rfl⟩ | ⟨kl, nl, rfl, rfl, hl0, hl1, rfl⟩
      · exact ⟨c', by simp [Instr.sliceBounds], hc, Nat.zero_le _, hlen, .inl ⟨rfl, rfl⟩⟩
      · exact ⟨c', by simp [Instr.sliceBounds, run_bound_ok hl0 hl1], hc, by omega, hlen, .inl ⟨rfl, rfl⟩⟩
    · rcases hl with ⟨rfl, rfl, rfl⟩ | ⟨kl, nl, rfl, rfl, hl0, hl1, rfl⟩
      · exact ⟨c', by simp [Instr.sliceBounds, run_bound_ok hj0 (show nj ≤ (c' : Int) by omega)], hc, Nat.zero_le _, by omega, .inl ⟨rfl, rfl⟩⟩
      · exact ⟨c', by simp [Instr.sliceBounds, run_bound_ok hj0 (show nj ≤ (c' : Int) by omega), run_bound_ok hl0 hl1], hc, by omega, by omega, .inl ⟨rfl, rfl⟩⟩
  · rcases hj with ⟨rfl, rfl, rfl⟩ | ⟨kj, nj, rfl, rfl, hj0, hj1, rfl⟩
    · exact absurd (hmh rfl) (by simp)
    · rcases hl with ⟨rfl, rfl, rfl⟩ | ⟨kl, nl, rfl, rfl, hl0, hl1, rfl⟩
      · exact ⟨nm.toNat, by simp [Instr.sliceBounds, run_bound_ok hm0 (show nm ≤ (c' : Int) by omega), run_bound_ok hj0 hj1], Nat.le_refl _, Nat.zero_le _, by omega, .inr rfl⟩
      · exact ⟨nm.toNat, by simp [Instr.sliceBounds, run_bound_ok hm0 (show nm ≤ (c' : Int) by omega), run_bound_ok hj0 hj1, run_bound_ok hl0 hl1], Nat.le_refl _, by omega, by omega, .inr rfl⟩
theorem run_sliceAt_of {t e : TypeId} {sz n c l j m : Nat} {a : Option Addr} {lo hi mx : Option Value} (ht : P.underlying t = some (.slice e)) (hs : tySize P e = some sz)
    (hb : (Instr.sliceBounds true n c lo hi mx).run P w = .ok (l, j, m) w) :
    (Instr.sliceAt t (.slice a n c) lo hi mx).run P w = .ok (.slice (if m = l then a else a.map (·.add (l * sz))) (j - l) (m - l)) w := by
  simp only [Instr.sliceAt, Instr.slice, Sem.run_bind, run_ty ht, Result.andThen_ok, hb, run_size hs, Sem.run_pure]
theorem tySize_cellsOf {t : TypeId} {n : Nat} (e : tySize P t = some n) : P.cellsOf t = n := by
  unfold tySize at e; unfold Program.cellsOf; rw [e]; rfl
theorem add_off (b o i : Nat) : (⟨b, o, none⟩ : Addr).add i = ⟨b, o + i, none⟩ := by
  unfold Addr.add
  by_cases h : i = 0
  · subst h; simp
  · simp [h]
theorem sliceV_ok {t e : TypeId} {sz : Nat} {x cx v : Value} {lo hi mx lo' hi' mx' : Option Value} (H : HR P B0 μ h w) (ht : P.underlying t = some (.slice e)) (hs : tySize P e = some sz)
    (hx : VR μ x cx)
    (hlo : (lo = none ∧ lo' = none) ∨ ∃ a b, lo = some a ∧ lo' = some b ∧ VR μ a b)
    (hhi : (hi = none ∧ hi' = none) ∨ ∃ a b, hi = some a ∧ hi' = some b ∧ VR μ a b)
    (hmx : (mx = none ∧ mx' = none) ∨ ∃ a b, mx = some a ∧ mx' = some b ∧ VR μ a b) (hmh : mx.isSome = true → hi.isSome = true)
    (ev : sliceV h e sz x lo hi mx = some v) :
    ∃ cv, (Instr.sliceAt t cx lo' hi' mx').run P w = .ok cv w ∧ VR μ v cv := by
  unfold sliceV at ev
  cases hx with
  | slNil =>
    simp only [Option.bind_eq_some_iff] at ev
    obtain ⟨m, em, j, ej, l, el, ev⟩ := ev
    cases ev
    obtain ⟨m', hrun, h1, h2, h3, h4⟩ := bounds_ok (P := P) (w := w) (isS := true) hlo hhi hmx (Nat.le_refl 0) (Nat.le_refl 0) em ej el hmh
    refine ⟨_, run_sliceAt_of ht hs hrun, ?_⟩
    have hm0 : m = 0 ∧ m' = 0 := by
      have hb := bound_ok .sliceB hmx em
      rcases hb with ⟨_, _, rfl⟩ | ⟨_, n, _, _, q1, q2, rfl⟩
      · rcases h4 with ⟨rfl, _⟩ | rfl <;> exact ⟨rfl, rfl⟩
      · have : n.toNat = 0 := by omega
        rcases h4 with ⟨rfl, _⟩ | rfl
        · exact ⟨this, rfl⟩
        · exact ⟨this, this⟩
    obtain ⟨rfl, rfl⟩ := hm0
    have : l = 0 ∧ j = 0 := by omega
    obtain ⟨rfl, rfl⟩ := this
    exact .slNil
  | @sl b o len cap c d n k o' cap' hb hl hc ho hr =>
    simp only [Option.bind_eq_some_iff] at ev
    obtain ⟨m, em, j, ej, l, el, ev⟩ := ev
    split at ev
    · rename_i cl e' hcl
      split at ev
      · rename_i hee; subst hee
        cases ev
        obtain ⟨cc, t', fz, q1, q2, q3, ⟨q4, q5⟩, q6⟩ := H.cells hb hcl
        have hk : k = sz := by rw [q5]; exact tySize_cellsOf hs
        subst hk
        obtain ⟨m', hrun, h1, h2, h3, h4⟩ := bounds_ok (P := P) (w := w) (isS := true) hlo hhi hmx hl hc em ej el hmh
        refine ⟨_, run_sliceAt_of ht hs hrun, ?_⟩
        by_cases hml : m = l
        · subst hml
          rw [if_pos rfl]
          by_cases hm' : m' = m
          · subst hm'
            rw [if_pos rfl]
            refine .sl hb (by omega) (by omega) (.inl (by omega)) ?_
            simp; have := Nat.le_add_right o' (cap' * k); omega
          · rw [if_neg hm']
            simp only [Option.map_some, add_off]
            refine .sl hb (by omega) (by omega) (.inl (by omega)) ?_
            have hmc : m' ≤ cap' := by rcases h4 with ⟨rfl, _⟩ | rfl <;> omega
            have : m * k + (m' - m) * k ≤ cap' * k := by rw [← Nat.add_mul]; exact Nat.mul_le_mul_right _ (by omega)
            omega
        · have hcap : cap ≠ 0 := by
            have hb' := bound_ok .sliceB hmx em
            rcases hb' with ⟨_, _, rfl⟩ | ⟨_, n, _, _, q1, q2, rfl⟩ <;> omega
          have hm' : m' ≠ l := by omega
          rw [if_neg hml, if_neg hm']
          simp only [Option.map_some, add_off]
          refine .sl hb (by omega) (by omega) (.inr ?_) ?_
          · rcases ho with ho | ho
            · exact absurd ho hcap
            · omega
          · have hmc : m' ≤ cap' := by
              have hb' := bound_ok .sliceB hmx em
              rcases h4 with ⟨rfl, _⟩ | rfl
              · omega
              · rcases hb' with ⟨_, _, rfl⟩ | ⟨_, n, _, _, q1, q2, rfl⟩ <;> omega
            have : l * k + (m' - l) * k ≤ cap' * k := by rw [← Nat.add_mul]; exact Nat.mul_le_mul_right _ (by omega)
            omega
      · cases ev
    · rename_i hcl
      obtain ⟨x, ob, q1, _, q3⟩ := H.obj _ _ _ _ _ hb
      rw [hcl] at q1; cases q1
      exact q3.elim
    · cases ev
  | slDead hb hl hc =>
    simp only [Option.bind_eq_some_iff] at ev
    obtain ⟨m, em, j, ej, l, el, ev⟩ := ev
    rw [H.dead _ hb] at ev
    simp only at ev
    cases ev
    obtain ⟨m', hrun, h1, h2, h3, h4⟩ := bounds_ok (P := P) (w := w) (isS := true) hlo hhi hmx hl hc em ej el hmh
    refine ⟨_, run_sliceAt_of ht hs hrun, ?_⟩
    by_cases hml : m = l
    · rw [if_pos hml]
      by_cases hm' : m' = l
      · rw [if_pos hm']; exact .slDead hb (by omega) (by omega)
      · rw [if_neg hm']; exact .slDead hb (by omega) (by omega)
    · rw [if_neg hml]
      simp only [add_off]
      by_cases hm' : m' = l
      · rw [if_pos hm']; exact .slDead hb (by omega) (by omega)
      · rw [if_neg hm']; exact .slDead hb (by omega) (by omega)
  | _ => simp at ev
end Go.AM
end

section
namespace Go.AM
variable {P : Program} {B0 : Nat × Nat} {κ : Ctx} {μ : Mu} {h : Heap} {w : World} {env : Env} {ρ : Operand → Value}
theorem cOpds_R {l : List Operand} {m : List Opd} (hm : cOpds l = some m) (hE : opdR μ env ρ l) : VRs μ (m.map (·.val env)) (l.map ρ) := by
  induction l generalizing m with
  | nil => simp only [cOpds, List.mapM_nil, Option.pure_def] at hm; cases hm; exact .nil
  | cons x l ih =>
    simp only [cOpds, List.mapM_cons, Option.pure_def, Option.bind_eq_bind, Option.bind_eq_some_iff] at hm
    obtain ⟨y, hy, m', hm', e⟩ := hm
    cases e
    exact .cons (hE x (by simp) y hy) (ih hm' fun z hz => hE z (by simp [hz]))
theorem val_move {o : Oper} {ao : AOp} {v : Value} {x : Operand} (hop : o.op = .move x) (hc : cOp P o = some ao) (hv : aVal env h ao = some v) (H : HR P B0 μ h w)
    (hE : opdR μ env ρ o.op.operands.toList) : ExV P w μ (execOp ρ o) v := by
  have he : execOp ρ o = pure (.value (ρ x)) := by unfold execOp; rw [hop]
  unfold cOp at hc
  rw [hop] at hc hE
  rw [he]
  clear he
  simp only [Option.pure_def, Option.bind_eq_bind, Option.bind_eq_some_iff] at hc
  obtain ⟨y, hy, e⟩ := hc
  cases e; cases hv
  exact ⟨_, rfl, hE x (by simp [Op.operands]) y hy⟩
theorem val_assign {o : Oper} {ao : AOp} {v : Value} {x : Operand} (hop : o.op = .assign x) (hc : cOp P o = some ao) (hv : aVal env h ao = some v) (H : HR P B0 μ h w)
    (hE : opdR μ env ρ o.op.operands.toList) : ExV P w μ (execOp ρ o) v := by
  have he : execOp ρ o = pure (.value (ρ x)) := by unfold execOp; rw [hop]
  unfold cOp at hc
  rw [hop] at hc hE
  rw [he]
  clear he
  simp only [Option.pure_def, Option.bind_eq_bind, Option.bind_eq_some_iff] at hc
  obtain ⟨y, hy, e⟩ := hc
  cases e; cases hv
  exact ⟨_, rfl, hE x (by simp [Op.operands]) y hy⟩
theorem val_pick {o : Oper} {ao : AOp} {v : Value} {c a b : Operand} (hop : o.op = .pick c a b) (hc : cOp P o = some ao) (hv : aVal env h ao = some v) (H : HR P B0 μ h w)
    (hE : opdR μ env ρ o.op.operands.toList) : ExV P w μ (execOp ρ o) v := by
  have he : execOp ρ o = (do pure (.value (if ← asBool (ρ c) then ρ a else ρ b))) := by unfold execOp; rw [hop]
  unfold cOp at hc
  rw [hop] at hc hE
  rw [he]
  clear he
  simp only [Option.pure_def, Option.bind_eq_bind, Option.bind_eq_some_iff] at hc
  obtain ⟨y, hy, y1, hy1, y2, hy2, e⟩ := hc
  cases e
  have h0 := hE c (by simp [Op.operands]) y hy
  have h1 := hE a (by simp [Op.operands]) y1 hy1
  have h2 := hE b (by simp [Op.operands]) y2 hy2
  simp only [aVal] at hv
  split at hv
  · rename_i t ht
    rw [ht] at h0
    cases hv
    generalize ρ c = cc at h0 ⊢
    cases h0
    refine ⟨if t then ρ a else ρ b, by simp only [asBool, Sem.run_bind, Sem.run_pure, Result.andThen_ok], ?_⟩
    cases t
    · exact h2
    · exact h1
  · cases hv
theorem val_load {o : Oper} {ao : AOp} {v : Value} {t : TypeId} {a : Operand} (hop : o.op = .load t a) (hc : cOp P o = some ao) (hv : aVal env h ao = some v) (H : HR P B0 μ h w)
    (hE : opdR μ env ρ o.op.operands.toList) : ExV P w μ (execOp ρ o) v := by
  have he : execOp ρ o = (do pure (.value (← Instr.loadAt t (ρ a)))) := by unfold execOp; rw [hop]
  unfold cOp at hc
  rw [hop] at hc hE
  rw [he]
  clear he
  simp only [Option.pure_def, Option.bind_eq_bind, Option.bind_eq_some_iff] at hc
  obtain ⟨ag, hag, hc⟩ := hc
  have h0 := hE a (by simp [Op.operands])
  cases ag with
  | true =>
    simp only [if_true, Option.bind_eq_some_iff] at hc
    obtain ⟨n, hn, y, hy, e⟩ := hc
    cases e
    obtain ⟨p, us, hp, hrun, hr⟩ := rdN_ok H (h0 y hy) hv
    refine ExV.of (cv := .agg us.toArray) ?_ hr
    simp only [Instr.loadAt, hp, Instr.sureAddr, loadVar, Sem.run_bind, Sem.run_pure, Result.andThen_ok, run_agg hag, if_true, run_size hn, hrun]
  | false =>
    simp only [Bool.false_eq_true, if_false, Option.bind_eq_some_iff] at hc
    obtain ⟨y, hy, e⟩ := hc
    cases e
    obtain ⟨p, u, hp, hs, hcell, hr⟩ := rd1_ok H (h0 y hy) hv
    refine ExV.of (cv := u) ?_ hr
    simp only [Instr.loadAt, hp, Instr.sureAddr, loadVar, Sem.run_bind, Sem.run_pure, Result.andThen_ok, run_agg hag, Bool.false_eq_true, if_false, run_load, hcell]
theorem val_nilCheck {o : Oper} {ao : AOp} {v : Value} {x : Operand} (hop : o.op = .nilCheck x) (hc : cOp P o = some ao) (hv : aVal env h ao = some v)
    (hE : opdR μ env ρ o.op.operands.toList) : ExV P w μ (execOp ρ o) v := by
  unfold execOp
  unfold cOp at hc
  rw [hop] at hc hE ⊢
  simp only [Option.pure_def, Option.bind_eq_bind, Option.bind_eq_some_iff] at hc
  obtain ⟨y, hy, e⟩ := hc
  cases e
  have h0 := hE x (by simp [Op.operands]) y hy
  simp only [aVal] at hv
  split at hv <;> cases hv <;> rename_i hx <;> rw [hx] at h0 <;> simp only <;> generalize ρ x = cx at h0 ⊢ <;> cases h0
  · exact ⟨_, rfl, .ptr (by assumption)⟩
  · exact ⟨_, rfl, .ptrDead (by assumption)⟩
  · exact ⟨_, rfl, .fn (by assumption) (by assumption) (by assumption) (by assumption)⟩
  · exact ⟨_, rfl, .iface _ (by assumption)⟩
theorem val_unOp {o : Oper} {ao : AOp} {v : Value} {op : UnOp} {t : TypeId} {x : Operand} (hop : o.op = .unOp op t x) (hc : cOp P o = some ao) (hv : aVal env h ao = some v) (H : HR P B0 μ h w)
    (hE : opdR μ env ρ o.op.operands.toList) : ExV P w μ (execOp ρ o) v := by
  have he : execOp ρ o = (do pure (.value (← Op.unary op (ρ x)))) := by unfold execOp; rw [hop]
  unfold cOp at hc
  rw [hop] at hc hE
  rw [he]
  clear he
  simp only [Option.pure_def, Option.bind_eq_bind, Option.bind_eq_some_iff] at hc
  obtain ⟨y, hy, e⟩ := hc
  cases e
  obtain ⟨h1, h2⟩ := unV_ok (P := P) (w := w) (hE x (by simp [Op.operands]) y hy) hv
  exact ExV.of h1 h2
theorem eqGuard_leaf {op : BinOp} {t : TypeId} {x y : Operand} {k : EqK} {a b ca cb : Value} {r : Bool} (ha : VR μ a ca) (hb : VR μ b cb) (e : eqK k a b = some r) :
    (eqGuard op t x y ca cb).run P w = .ok () w := by
  have key : ∀ op : BinOp, op = .eql ∨ op = .neq → (eqGuard op t x y ca cb).run P w = .ok () w := by
    intro op hop
    unfold eqGuard
    have hm : (!(match op with | .eql | .neq => true | _ => false)) = false := by rcases hop with rfl | rfl <;> rfl
    rw [if_neg (by rcases hop with rfl | rfl <;> simp)]
    split
    · cases ha; cases hb
      exfalso
      cases k <;> exact absurd (show (none : Option Bool) = some r from e) (by simp)
    · cases ha; cases hb
      exfalso
      cases k <;> exact absurd (show (none : Option Bool) = some r from e) (by simp)
    · rfl
  cases op <;> first | rfl | exact key _ (.inl rfl) | exact key _ (.inr rfl)
theorem val_binOp {o : Oper} {ao : AOp} {v : Value} {op : BinOp} {t u : TypeId} {x y : Operand} (hop : o.op = .binOp op t x y u) (hc : cOp P o = some ao) (hv : aVal env h ao = some v)
    (hE : opdR μ env ρ o.op.operands.toList) : ExV P w μ (execOp ρ o) v := by
  have he : execOp ρ o = (do pure (.value (← (do eqGuard op t x y (ρ x) (ρ y); binOp op t (ρ x) (ρ y) : Sem Value)))) := by unfold execOp; rw [hop]
  unfold cOp at hc
  rw [hop] at hc hE
  rw [he]
  clear he
  simp only [Option.pure_def, Option.bind_eq_bind, Option.bind_eq_some_iff] at hc
  obtain ⟨a, ha, b, hb, hc⟩ := hc
  have h0 := hE x (by simp [Op.operands]) a ha
  have h1 := hE y (by simp [Op.operands]) b hb
  have bin : ao = AOp.bin op a b → ExV P w μ (do pure (.value (← (do eqGuard op t x y (ρ x) (ρ y); binOp op t (ρ x) (ρ y) : Sem Value)))) v := by
    rintro rfl
    obtain ⟨h2, h3⟩ := binV_ok (P := P) (w := w) (t := t) (x := x) (y := y) h0 h1 hv
    exact ExV.of h2 h3
  have eqq : ∀ (neg : Bool) (ks : List EqK) (ag : Bool), op = (if neg then .neq else .eql) → ao = .eqv neg ks ag a b →
      (∀ r, eqV ks ag (a.val env) (b.val env) = some r → (eqGuard op t x y (ρ x) (ρ y)).run P w = .ok () w ∧ (Op.equal t (ρ x) (ρ y)).run P w = .ok r w ∧
        binOp op t (ρ x) (ρ y) = (do let r ← Op.equal t (ρ x) (ρ y); pure (.bool (if neg then !r else r)))) →
      ExV P w μ (do pure (.value (← (do eqGuard op t x y (ρ x) (ρ y); binOp op t (ρ x) (ρ y) : Sem Value)))) v := by
    rintro neg ks ag hop rfl hr
    simp only [aVal, Option.map_eq_some_iff] at hv
    obtain ⟨r, hr', rfl⟩ := hv
    obtain ⟨q1, q2, q3⟩ := hr r hr'
    refine ExV.of (cv := .bool (if neg then !r else r)) ?_ (.bool _)
    simp only [Sem.run_bind, q1, Result.andThen_ok, q3]
    cases neg <;> simp only [q2, Result.andThen_ok, Sem.run_pure, Sem.run_bind, Bool.false_eq_true, if_false, if_true]
  have eqt : ∀ (neg : Bool), op = (if neg then .neq else .eql) →
      cEq P op neg t a b = some ao →
      ExV P w μ (do pure (.value (← (do eqGuard op t x y (ρ x) (ρ y); binOp op t (ρ x) (ρ y) : Sem Value)))) v := by
    intro neg hop hc
    unfold cEq at hc
    split at hc
    · cases hc; exact bin rfl
    · cases hc; exact bin rfl
    · rename_i fs hd
      split at hc
      · cases hc
      · rename_i hg
        obtain ⟨ks, hks, hc⟩ := Option.map_eq_some_iff.1 hc
        cases hc
        refine eqq neg ks true hop rfl fun r hr => ?_
        simp only [eqV, if_true] at hr
        split at hr
        · rename_i ca cb hca hcb
          rw [hca] at h0; rw [hcb] at h1
          generalize ρ x = cx at h0 ⊢
          generalize ρ y = cy at h1 ⊢
          cases h0 with
          | agg hs1 hg1 =>
            cases h1 with
            | agg hs2 hg2 =>
              have e1 := VRs.of_agg hs1 hg1
              have e2 := VRs.of_agg hs2 hg2
              refine ⟨?_, ?_, ?_⟩
              · rcases (show op = .eql ∨ op = .neq by cases neg <;> simp at hop <;> simp [hop]) with rfl | rfl <;>
                  simp [eqGuard, hg]
              · rcases eqKinds_ok (P := P) (w := w) (μ := μ) 64 10000 t ks (by omega) hks with ⟨k, _, hag, _⟩ | ⟨_, hk⟩
                · rw [tyAgg_of hd] at hag; cases hag
                · exact hk _ _ _ _ r e1 e2 hr
              · cases neg <;> simp at hop <;> subst hop <;> simp [binOp]
        · cases hr
    · obtain ⟨k, hk, hc⟩ := Option.map_eq_some_iff.1 hc
      cases hc
      refine eqq neg [k] false hop rfl fun r hr => ?_
      have hr : eqK k (a.val env) (b.val env) = some r := hr
      refine ⟨eqGuard_leaf h0 h1 hr, eqK_leaf 9999 hk h0 h1 hr, ?_⟩
      generalize a.val env = va at h0 hr
      generalize b.val env = vb at h1 hr
      generalize ρ x = cx at h0 ⊢
      generalize ρ y = cy at h1 ⊢
      have no : ∀ (k' : IntKind) (n m : Int), ¬ (va = .int k' n) := by
        intro k' n m hva; subst hva
        unfold eqLeaf at hk
        split at hk <;> cases hk <;> exact absurd (show (none : Option Bool) = some r from hr) (by simp)
      have no2 : ∀ s, ¬ (va = .string s) := by
        intro s hva; subst hva
        unfold eqLeaf at hk
        split at hk <;> cases hk <;> exact absurd (show (none : Option Bool) = some r from hr) (by simp)
      have no3 : ∀ s n, ¬ (va = .float s n) := by
        intro s n hva; subst hva
        unfold eqLeaf at hk
        split at hk <;> cases hk <;> exact absurd (show (none : Option Bool) = some r from hr) (by simp)
      cases neg <;> simp only [Bool.false_eq_true, if_false, if_true] at hop <;> subst hop <;> cases h0 <;> cases h1 <;>
        first
          | rfl
          | exact absurd rfl (no _ _ 0)
          | exact absurd rfl (no2 _)
          | exact absurd rfl (no3 _ _)
    · cases hc
  cases op <;> first
    | (simp only [Option.some.injEq] at hc; exact bin hc.symm)
    | exact eqt false rfl hc
    | exact eqt true rfl hc
end Go.AM
end

section
namespace Go.AM
variable {P : Program} {B0 : Nat × Nat} {κ : Ctx} {μ : Mu} {h : Heap} {w : World} {env : Env} {ρ : Operand → Value}
theorem VR_cells {a c : Value} (hr : VR μ a c) : VRs μ a.cells.toList c.cells.toList := by
  cases hr with
  | agg hs hg => exact VRs.of_agg hs hg
  | bool b => exact .cons (.bool b) .nil
  | int k n => exact .cons (.int k n) .nil
  | float k n => exact .cons (.float k n) .nil
  | string s => exact .cons (.string s) .nil
  | ptrNil => exact .cons .ptrNil .nil
  | ptr hb => exact .cons (.ptr hb) .nil
  | ptrDead hb => exact .cons (.ptrDead hb) .nil
  | slNil => exact .cons .slNil .nil
  | sl hb hl hc ho hr => exact .cons (.sl hb hl hc ho hr) .nil
  | slDead hb hl hc => exact .cons (.slDead hb hl hc) .nil
  | mapNil => exact .cons .mapNil .nil
  | map hb => exact .cons (.map hb) .nil
  | mapDead hb => exact .cons (.mapDead hb) .nil
  | fn ha hb ia ib => exact .cons (.fn ha hb ia ib) .nil
  | yld hb => exact .cons (.yld hb) .nil
  | yldDead hb => exact .cons (.yldDead hb) .nil
  | nilFunc => exact .cons .nilFunc .nil
  | iface t hr => exact .cons (.iface t hr) .nil
  | nilIface => exact .cons .nilIface .nil
  | tuple hs hg => exact .cons (.tuple hs hg) .nil
theorem foldl_set (off : Nat) : ∀ (vs : List Value) (k : Nat) (cells : Array Value), off + k + vs.length ≤ cells.size →
    ((vs.zipIdx k).foldl (fun cs (p : Value × Nat) => cs.setIfInBounds (off + p.2) p.1) cells).toList = putAt cells.toList (off + k) vs
  | [], k, cells, hk => by simp [putAt]
  | v :: vs, k, cells, hk => by
    simp only [List.zipIdx_cons, List.foldl_cons]
    rw [foldl_set off vs (k + 1) _ (by simp; simp at hk; omega)]
    simp only [Array.toList_setIfInBounds]
    simp only [List.length_cons] at hk
    apply List.ext_getElem?
    intro i
    rw [putAt_get (by simp; omega), putAt_get (by simp; omega)]
    by_cases h1 : off + k = i
    · subst h1
      rw [if_neg (by omega), if_pos (by simp), List.getElem?_set, if_pos rfl, if_pos (by simp; omega)]
      simp
    · by_cases h2 : off + k + 1 ≤ i ∧ i < off + k + 1 + vs.length
      · rw [if_pos (by omega), if_pos (by simp; omega), show i - (off + k) = (i - (off + (k + 1))) + 1 by omega, List.getElem?_cons_succ]
      · rw [if_neg (by omega), if_neg (by simp; omega), List.getElem?_set, if_neg h1]
theorem VRs.putAt {l m vs us : List Value} {off : Nat} (h1 : VRs μ l m) (h2 : VRs μ vs us) : VRs μ (putAt l off vs) (putAt m off us) := by
  unfold AM.putAt
  rw [h2.1]
  exact (h1.take _).append (h2.append (h1.drop _))
theorem fill_ok {place : Nat → Option (Nat × Nat)} : ∀ {ps : List (Nat × Operand)} {qs : List (Nat × Nat × Opd)} {z l : List Value} {cz : Array Value}, cParts place ps = some qs →
    (∀ p ∈ ps, ∀ y, cOpd p.2 = some y → VR μ (y.val env) (ρ p.2)) → VRs μ z cz.toList → fillL z (qs.map fun p => (p.1, p.2.1, p.2.2.val env)) = some l →
    ∃ cl, Instr.fill place cz (ps.map fun p => (p.1, ρ p.2)) = some cl ∧ VRs μ l cl.toList
  | [], qs, z, l, cz, hc, hE, hz, e => by
    simp only [cParts] at hc; cases hc
    simp only [List.map_nil, fillL] at e; cases e
    exact ⟨cz, rfl, hz⟩
  | p :: ps, qs, z, l, cz, hc, hE, hz, e => by
    simp only [cParts] at hc
    split at hc
    · rename_i q x r hq hx hr
      cases hc
      simp only [List.map_cons, fillL] at e
      split at e
      · rename_i hcond
        obtain ⟨c1, c2, c3⟩ := hcond
        have hv := VR_cells (hE p (by simp) x hx)
        have hsz : (ρ p.2).cells.size = q.2 := by have := hv.1; simp at this; omega
        have hzl : z.length = cz.size := by have := hz.1; simpa using this
        have hz' : VRs μ (putAt z q.1 (x.val env).cells.toList) (((ρ p.2).cells.zipIdx.foldl (fun cs (p : Value × Nat) => cs.setIfInBounds (q.1 + p.2) p.1) cz)).toList := by
          have := foldl_set q.1 (ρ p.2).cells.toList 0 cz (by simp; omega)
          rw [← Array.foldl_toList, Array.toList_zipIdx, this]
          exact hz.putAt hv
        obtain ⟨cl, h1, h2⟩ := fill_ok hr (fun p' hp' => hE p' (by simp [hp'])) hz' e
        refine ⟨cl, ?_, h2⟩
        simp only [List.map_cons, Instr.fill, hq]
        rw [if_neg (by simp; omega)]
        exact h1
      · cases e
    · cases hc
theorem cParts_mem {ps : List (Nat × Operand)} {l : List Operand} (hE : opdR μ env ρ l) (hl : ∀ p ∈ ps, p.2 ∈ l) :
    ∀ p ∈ ps, ∀ y, cOpd p.2 = some y → VR μ (y.val env) (ρ p.2) := fun p hp y hy => hE p.2 (hl p hp) y hy
theorem run_places : ∀ (fs : List Field), (fs.all fun f => (tySize P f.type).isSome) = true →
    (fs.mapM fun f => do pure (f.offset, ← sizeOf f.type) : Sem (List (Nat × Nat))).run P w = .ok (fs.map fun f => (f.offset, P.cellsOf f.type)) w
  | [], _ => by simp
  | f :: fs, hf => by
    simp only [List.all_cons, Bool.and_eq_true] at hf
    obtain ⟨n, hn⟩ := Option.isSome_iff_exists.1 hf.1
    simp only [List.mapM_cons, Sem.run_bind, run_size hn, Result.andThen_ok, Sem.run_pure, run_places fs hf.2, List.map_cons, tySize_cellsOf hn]
theorem tyZero_some {t : TypeId} {z : List Value} (e : tyZero P t = some z) : ∃ v, (P.info? t).bind (·.zero) = some v ∧ z = v.cells.toList ∧ z.all const1 = true := by
  unfold tyZero at e
  split at e
  · rename_i v hv
    split at e
    · cases e; exact ⟨v, hv, rfl, by assumption⟩
    · cases e
  · cases e
end Go.AM
end

section
namespace Go.AM
variable {P : Program} {B0 : Nat × Nat} {κ : Ctx} {μ : Mu} {h : Heap} {w : World} {env : Env} {ρ : Operand → Value}
theorem val_build {o : Oper} {ao : AOp} {v : Value} {t : TypeId} {ps : Array (Nat × Operand)} (hop : o.op = .build t ps) (hc : cOp P o = some ao) (hv : aVal env h ao = some v) (H : HR P B0 μ h w)
    (hE : opdR μ env ρ o.op.operands.toList) : ExV P w μ (execOp ρ o) v := by
  have he : execOp ρ o = (do pure (.value (← Instr.build t (ps.map fun (i, x) => (i, ρ x))))) := by unfold execOp; rw [hop]
  unfold cOp at hc
  rw [hop] at hc hE
  rw [he]
  clear he
  simp only [Option.pure_def, Option.bind_eq_bind, Option.bind_eq_some_iff] at hc
  obtain ⟨z, hz, qs, hq, e⟩ := hc
  cases e
  obtain ⟨zv, hzv, rfl, hzc⟩ := tyZero_some hz
  simp only [aVal, Option.map_eq_some_iff] at hv
  obtain ⟨l, hl, rfl⟩ := hv
  have hmem : ∀ p ∈ ps.toList, p.2 ∈ (Op.build t ps).operands.toList := by
    intro p hp; simp only [Op.operands, List.mem_map]; exact ⟨p, hp, rfl⟩
  unfold buildPlaces at hq
  split at hq
  · rename_i fs hu
    split at hq
    · rename_i hall
      obtain ⟨cl, h1, h2⟩ := fill_ok (cz := zv.cells) hq (cParts_mem hE hmem) (consts_VRs hzc) hl
      refine ExV.of (cv := .agg cl) ?_ (by have := h2.agg; simpa using this)
      simp only [Instr.build, Sem.run_bind, run_zero hzv, Result.andThen_ok, run_ty hu]
      rw [Array.mapM_eq_mapM_toList]
      simp only [Sem.run_map, run_places fs.toList hall, Result.andThen_ok, Array.toList_map]
      have hpl : (fun (i : Nat) => ((fs.toList.map fun (f : Field) => (f.offset, P.cellsOf f.type)).toArray)[i]?) = fun (i : Nat) => (fs[i]?).bind fun (f : Field) => (tySize P f.type).map fun s => (f.offset, s) := by
        funext i
        simp only [List.getElem?_toArray, List.getElem?_map, Array.getElem?_toList]
        cases hfi : fs[i]? with
        | none => rfl
        | some f =>
          have hf := List.all_eq_true.1 hall f (by simpa using (Array.mem_of_getElem? hfi))
          obtain ⟨n, hn⟩ := Option.isSome_iff_exists.1 hf
          simp [hn, tySize_cellsOf hn]
      rw [hpl, h1]
      rfl
    · cases hq
  · rename_i n e hu
    obtain ⟨s, hs, hq⟩ := Option.bind_eq_some_iff.1 hq
    obtain ⟨cl, h1, h2⟩ := fill_ok (cz := zv.cells) hq (cParts_mem hE hmem) (consts_VRs hzc) hl
    refine ExV.of (cv := .agg cl) ?_ (by have := h2.agg; simpa using this)
    simp only [Instr.build, Sem.run_bind, run_zero hzv, Result.andThen_ok, run_ty hu, run_size hs, Array.toList_map, h1]
    rfl
  · cases hq
theorem bytesOf_ok : ∀ {l us : List Value} {bs : List UInt8}, bytesOf l = some bs → VRs μ l us → ∃ ns : List Int, us = ns.map (Value.int .u8) ∧ bs = ns.map fun n => UInt8.ofNat n.toNat
  | [], us, bs, e, hr => by simp only [bytesOf] at e; cases e; rw [hr.nil_inv]; exact ⟨[], rfl, rfl⟩
  | v :: l, us, bs, e, hr => by
    obtain ⟨u, us', rfl, h1, h2⟩ := hr.cons_inv
    simp only [bytesOf] at e
    split at e
    · rename_i b hb
      obtain ⟨bs', hbs, rfl⟩ := Option.map_eq_some_iff.1 e
      obtain ⟨ns, rfl, rfl⟩ := bytesOf_ok hbs h2
      cases h1 with
      | int k n =>
        cases k <;> simp only [byteOf] at hb <;> cases hb
        exact ⟨n :: ns, rfl, rfl⟩
      | _ => simp [byteOf] at hb
    · cases e
theorem foldl_push_bytes : ∀ (ns : List Int) (s : ByteArray), ns.foldl (fun r n => r.push (UInt8.ofNat n.toNat)) s = ⟨s.data ++ (ns.map fun n => UInt8.ofNat n.toNat).toArray⟩
  | [], s => by simp
  | n :: ns, s => by
    rw [List.foldl_cons, foldl_push_bytes ns]
    congr 1
    show (s.data.push _) ++ _ = _
    apply Array.ext'
    simp
theorem srcCells_ok {k n c : Nat} {a : Addr} {x : Value} {m : Nat} {l : List Value} (H : HR P B0 μ h w) (hr : VR μ (.slice (some a) n c) x) (e : srcCells h k (.slice (some a) n c) = some (m, l)) :
    m = n ∧ ∃ (p : Addr) (cap' : Nat) (us : List Value), x = .slice (some p) n cap' ∧ us.length = n * k ∧ VRs μ l us ∧ (loadCells p (n * k)).run P w = .ok us.toArray w := by
  simp only [srcCells] at e
  split at e
  · cases e
  · split at e
    · rename_i hnk
      cases e
      refine ⟨rfl, ?_⟩
      cases hr with
      | sl hb hl hc ho hr => exact ⟨_, _, [], rfl, by simp [hnk], .nil, by rw [hnk]; rfl⟩
      | slDead hb _ _ => exact ⟨_, _, [], rfl, by simp [hnk], .nil, by rw [hnk]; rfl⟩
    · rename_i hnk
      obtain ⟨cl, hcl, e⟩ := Option.bind_eq_some_iff.1 e
      obtain ⟨l', hl', e⟩ := Option.map_eq_some_iff.1 e
      cases e
      refine ⟨rfl, ?_⟩
      obtain ⟨t, ht⟩ := cellsAt_some hcl
      obtain ⟨hg1, hg2⟩ := grab_some hl'
      cases hr with
      | @sl b o len cap cc d nn kk o' cap' hb hl hc ho hr =>
        obtain ⟨arr, t', fz, q1, q2, q3, q4, q5⟩ := H.cells hb ht
        obtain ⟨us, hlen, hrs, hget⟩ := cells_from q5 hg1
        refine ⟨_, _, us, rfl, hlen, by rw [hg2]; exact hrs, ?_⟩
        have ho' : o' = o + d := by
          rcases ho with h0 | h0
          · exfalso; have : n = 0 := by omega
            rw [this] at hnk; simp at hnk
          · exact h0
        rw [← hlen]
        refine run_loadCells_list w _ _ fun j v hj => ?_
        rw [cell_add (e := t') (fz := fz) (cc := arr) rfl q1, ← hget j v hj]
        congr 1; simp only []; omega
      | slDead hb _ _ => rw [H.dead _ hb] at ht; cases ht
theorem val_convert {o : Oper} {ao : AOp} {v : Value} {s d : TypeId} {x : Operand} (hop : o.op = .convert s d x) (hc : cOp P o = some ao) (hv : aVal env h ao = some v) (H : HR P B0 μ h w)
    (hE : opdR μ env ρ o.op.operands.toList) : ExV P w μ (execOp ρ o) v := by
  have he : execOp ρ o = (do pure (.value (← convert s d (ρ x)))) := by unfold execOp; rw [hop]
  unfold cOp at hc
  rw [hop] at hc hE
  rw [he]
  clear he
  simp only [Option.pure_def, Option.bind_eq_bind, Option.bind_eq_some_iff] at hc
  obtain ⟨ds, hds, dd, hdd, hc⟩ := hc
  have h0 := hE x (by simp [Op.operands])
  split at hc
  · simp only [Option.bind_eq_some_iff] at hc
    obtain ⟨y, hy, e⟩ := hc
    cases e
    have h0 := h0 y hy
    simp only [aVal] at hv
    split at hv
    · rename_i k1 n1 hx
      rw [hx] at h0
      cases hv
      generalize ρ x = cx at h0 ⊢
      cases h0
      refine ExV.of ?_ (.int _ _)
      simp only [convert, Sem.run_bind, run_ty hds, run_ty hdd, Result.andThen_ok, Conv.intToInt, Sem.run_pure]
    · cases hv
  · simp only [Option.bind_eq_some_iff] at hc
    obtain ⟨de, hde, hc⟩ := hc
    split at hc
    · simp only [Option.bind_eq_some_iff] at hc
      obtain ⟨y, hy, e⟩ := hc
      cases e
      have h0 := h0 y hy
      have hconv : ∀ a n c, (convert s d (.slice a n c)).run P w = (Conv.bytesToString (.slice a n c)).run P w := by
        intro a n c
        cases a <;> simp only [convert, Sem.run_bind, run_ty hds, run_ty hdd, Result.andThen_ok, run_ty hde]
      simp only [aVal] at hv
      split at hv
      · rename_i n c hx
        rw [hx] at h0
        cases hv
        generalize ρ x = cx at h0 ⊢
        cases h0
        exact ExV.of (by rw [hconv]; rfl) (.string _)
      · rename_i a n c hx
        rw [hx] at h0
        obtain ⟨⟨m, l⟩, hl, hv⟩ := Option.bind_eq_some_iff.1 hv
        obtain ⟨bs, hbs, rfl⟩ := Option.map_eq_some_iff.1 hv
        obtain ⟨rfl, p, cap', us, hcx, hlen, hrs, hrun⟩ := srcCells_ok H h0 hl
        obtain ⟨ns, rfl, rfl⟩ := bytesOf_ok hbs hrs
        rw [Nat.mul_one] at hrun
        refine ExV.of (cv := .string (ns.foldl (fun r n => r.push (UInt8.ofNat n.toNat)) ByteArray.empty)) ?_ ?_
        · rw [hcx, hconv]; exact run_bytesToString w p _ _ ns hrun
        · rw [foldl_push_bytes]
          have : (ByteArray.empty.data ++ (List.map (fun n : Int => UInt8.ofNat n.toNat) ns).toArray) = (List.map (fun n : Int => UInt8.ofNat n.toNat) ns).toArray := by
            apply Array.ext'; simp [ByteArray.empty, ByteArray.emptyWithCapacity]; try rfl
          rw [this]; exact .string _
      · cases hv
    · cases hc
  · cases hc
theorem val_makeInterface {o : Oper} {ao : AOp} {v : Value} {t : TypeId} {x : Operand} (hop : o.op = .makeInterface t x) (hc : cOp P o = some ao) (hv : aVal env h ao = some v) (H : HR P B0 μ h w)
    (hE : opdR μ env ρ o.op.operands.toList) : ExV P w μ (execOp ρ o) v := by
  have he : execOp ρ o = (do pure (.value (← Instr.makeInterface t (ρ x)))) := by unfold execOp; rw [hop]
  unfold cOp at hc
  rw [hop] at hc hE
  rw [he]
  clear he
  simp only [Option.pure_def, Option.bind_eq_bind, Option.bind_eq_some_iff] at hc
  obtain ⟨d, hd, hc⟩ := hc
  split at hc
  · cases hc
  · rename_i hni
    simp only [Option.bind_eq_some_iff] at hc
    obtain ⟨y, hy, e⟩ := hc
    cases e; cases hv
    refine ExV.of (cv := .iface t (ρ x)) ?_ (.iface t (hE x (by simp [Op.operands]) y hy))
    simp only [Instr.makeInterface, Sem.run_bind, run_ty hd, Result.andThen_ok]
    cases d <;> first | rfl | exact absurd rfl (hni _)
theorem val_makeFunc {o : Oper} {ao : AOp} {v : Value} {fn : Fn} {first cap : Array Operand} (hop : o.op = .makeFunc fn first cap) (hc : cOp P o = some ao) (hv : aVal env h ao = some v) (H : HR P B0 μ h w)
    (hE : opdR μ env ρ o.op.operands.toList) : ExV P w μ (execOp ρ o) v := by
  have he : execOp ρ o = (do pure (.value (← Instr.makeFunc fn (first.map ρ) (cap.map ρ)))) := by unfold execOp; rw [hop]
  unfold cOp at hc
  rw [hop] at hc hE
  rw [he]
  clear he
  simp only [Option.pure_def, Option.bind_eq_bind, Option.bind_eq_some_iff] at hc
  split at hc
  · rename_i f
    simp only [Option.bind_eq_some_iff] at hc
    obtain ⟨l1, h1, l2, h2, e⟩ := hc
    cases e; cases hv
    have e1 := cOpds_R (env := env) (ρ := ρ) (μ := μ) h1 fun x hx => hE x (by simp [Op.operands] at hx ⊢; exact .inl hx)
    have e2 := cOpds_R (env := env) (ρ := ρ) (μ := μ) h2 fun x hx => hE x (by simp [Op.operands] at hx ⊢; exact .inr hx)
    refine ExV.of (cv := .func (.func f) (first.map ρ) (cap.map ρ)) rfl (.fn (by have := e1.1; simpa using this) (by have := e2.1; simpa using this) (fun i x y hx hy => ?_) (fun i x y hx hy => ?_))
    · exact e1.2 i x y (by simpa using hx) (by simpa using hy)
    · exact e2.2 i x y (by simpa using hx) (by simpa using hy)
  · cases hc
theorem val_extract {o : Oper} {ao : AOp} {v : Value} {x : Operand} {i : Nat} (hop : o.op = .extract x i) (hc : cOp P o = some ao) (hv : aVal env h ao = some v) (H : HR P B0 μ h w)
    (hE : opdR μ env ρ o.op.operands.toList) : ExV P w μ (execOp ρ o) v := by
  have he : execOp ρ o = (do pure (.value (← Instr.extract (ρ x) i))) := by unfold execOp; rw [hop]
  unfold cOp at hc
  rw [hop] at hc hE
  rw [he]
  clear he
  simp only [Option.pure_def, Option.bind_eq_bind, Option.bind_eq_some_iff] at hc
  obtain ⟨y, hy, e⟩ := hc
  cases e
  have h0 := hE x (by simp [Op.operands]) y hy
  simp only [aVal] at hv
  split at hv
  · rename_i vs hx
    rw [hx] at h0
    generalize ρ x = cx at h0 ⊢
    cases h0 with
    | tuple hs hg =>
      obtain ⟨u, hu, hr⟩ := (VRs.of_agg hs hg).get hv
      have hu' := hu
      rw [Array.getElem?_toList] at hu'
      exact ExV.of (cv := u) (by simp only [Instr.extract, hu', Sem.run_pure]) hr
  · cases hv
theorem val_fieldAddr {o : Oper} {ao : AOp} {v : Value} {s : TypeId} {x : Operand} {i : Nat} (hop : o.op = .fieldAddr s x i) (hc : cOp P o = some ao) (hv : aVal env h ao = some v) (H : HR P B0 μ h w)
    (hE : opdR μ env ρ o.op.operands.toList) : ExV P w μ (execOp ρ o) v := by
  have he : execOp ρ o = (do pure (.value (← Instr.fieldAt s (ρ x) i))) := by unfold execOp; rw [hop]
  unfold cOp at hc
  rw [hop] at hc hE
  rw [he]
  clear he
  simp only [Option.pure_def, Option.bind_eq_bind, Option.bind_eq_some_iff] at hc
  obtain ⟨fs, hfs, f, hf, n, hn, hc⟩ := hc
  split at hc
  · cases hc
  · rename_i hn0
    simp only [Option.bind_eq_some_iff] at hc
    obtain ⟨y, hy, e⟩ := hc
    cases e
    have h0 := hE x (by simp [Op.operands]) y hy
    have hu : P.underlying s = some (.struct fs) := by
      unfold structFields at hfs
      split at hfs
      · rename_i hd; cases hfs; exact hd
      · cases hfs
    simp only [aVal] at hv
    split at hv
    · rename_i a hx
      rw [hx] at h0
      cases hv
      have hrun : ∀ p : Addr, (Instr.fieldAt s (.pointer (some p)) i).run P w = .ok (.pointer (some (p.add f.offset))) w := by
        intro p
        simp only [Instr.fieldAt, Sem.run_bind, run_ty hu, Result.andThen_ok, hf, Instr.sureAddr, Sem.run_pure, fieldPlace, run_size hn]
        rw [if_neg (by simpa using hn0)]
        rfl
      generalize ρ x = cx at h0 ⊢
      cases h0 with
      | ptr hb => exact ExV.of (hrun _) (by rw [add_off, add_off, show ∀ a b c : Nat, a + b + c = a + c + b by omega]; exact .ptr hb)
      | ptrDead hb => exact ExV.of (hrun _) (by rw [add_off]; exact .ptrDead hb)
    · cases hv
theorem val_slice {o : Oper} {ao : AOp} {v : Value} {t : TypeId} {x : Operand} {lo hi mx : Option Operand} (hop : o.op = .slice t x lo hi mx) (hc : cOp P o = some ao) (hv : aVal env h ao = some v) (H : HR P B0 μ h w)
    (hE : opdR μ env ρ o.op.operands.toList) : ExV P w μ (execOp ρ o) v := by
  have he : execOp ρ o = (do pure (.value (← Instr.sliceAt t (ρ x) (lo.map ρ) (hi.map ρ) (mx.map ρ)))) := by unfold execOp; rw [hop]
  unfold cOp at hc
  rw [hop] at hc hE
  rw [he]
  clear he
  simp only [Option.pure_def, Option.bind_eq_bind, Option.bind_eq_some_iff] at hc
  obtain ⟨d, hd, hc⟩ := hc
  split at hc
  · split at hc
    · cases hc
    · rename_i hmx
      simp only [Option.bind_eq_some_iff] at hc
      obtain ⟨y, hy, l1, hl1, l2, hl2, e⟩ := hc
      cases e
      have h0 := hE x (by simp [Op.operands]) y hy
      have r1 := optOpd_R (env := env) (ρ := ρ) (μ := μ) hl1 fun z hz => hE z (by simp [Op.operands] at hz ⊢; simp [hz])
      have r2 := optOpd_R (env := env) (ρ := ρ) (μ := μ) hl2 fun z hz => hE z (by simp [Op.operands] at hz ⊢; simp [hz])
      have hmx' : mx = none := by cases mx <;> simp at hmx ⊢
      subst hmx'
      simp only [aVal] at hv
      split at hv
      · rename_i s hx
        rw [hx] at h0
        obtain ⟨j, hj, hv⟩ := Option.bind_eq_some_iff.1 hv
        obtain ⟨i, hi', rfl⟩ := Option.map_eq_some_iff.1 hv
        generalize ρ x = cx at h0 ⊢
        cases h0
        refine ExV.of ?_ (.string _)
        have hb1 := bound_ok .sliceB r2 hj
        have hb2 := bound_ok .sliceB r1 hi'
        have hrun : (Instr.sliceBounds false s.size s.size (lo.map ρ) (hi.map ρ) none).run P w = .ok (i, j, s.size) w := by
          rcases hb1 with ⟨_, q1, rfl⟩ | ⟨kj, nj, _, q1, hj0, hj1, rfl⟩ <;> rcases hb2 with ⟨_, q2, rfl⟩ | ⟨kl, nl, _, q2, hl0, hl1, rfl⟩ <;> rw [q1, q2]
          · simp [Instr.sliceBounds]
          · simp [Instr.sliceBounds, run_bound_ok hl0 hl1]
          · simp [Instr.sliceBounds, run_bound_ok hj0 hj1]
          · simp [Instr.sliceBounds, run_bound_ok hj0 hj1, run_bound_ok hl0 hl1]
        simp only [Instr.sliceAt, Instr.slice, Sem.run_bind, run_ty hd, Result.andThen_ok, Option.map_none, Option.isSome_none, Bool.false_eq_true, if_false, hrun, Sem.run_pure]
      · cases hv
  · rename_i el
    split at hc
    · cases hc
    · rename_i hmh
      simp only [Option.bind_eq_some_iff] at hc
      obtain ⟨sz, hsz, y, hy, l1, hl1, l2, hl2, l3, hl3, e⟩ := hc
      cases e
      have h0 := hE x (by simp [Op.operands]) y hy
      have r1 := optOpd_R (env := env) (ρ := ρ) (μ := μ) hl1 fun z hz => hE z (by simp [Op.operands] at hz ⊢; simp [hz])
      have r2 := optOpd_R (env := env) (ρ := ρ) (μ := μ) hl2 fun z hz => hE z (by simp [Op.operands] at hz ⊢; simp [hz])
      have r3 := optOpd_R (env := env) (ρ := ρ) (μ := μ) hl3 fun z hz => hE z (by simp [Op.operands] at hz ⊢; simp [hz])
      obtain ⟨cv, q1, q2⟩ := sliceV_ok (P := P) H hd hsz h0 r1 r2 r3 (by
        intro hm
        cases mx with
        | none => simp only [optOpd] at hl3; cases hl3; simp at hm
        | some q =>
          cases hi with
          | none => simp at hmh
          | some q' => simp only [optOpd, Option.map_eq_some_iff] at hl2; obtain ⟨u, _, rfl⟩ := hl2; rfl) hv
      exact ExV.of q1 q2
  · cases hc
theorem VRs.part {a c : Array Value} {off n : Nat} (hs : VRs μ a.toList c.toList) : VR μ (.agg ((a.toList.drop off).take n).toArray) (.agg (c.extract off (off + n))) := by
  have := ((hs.drop off).take n).agg
  have e : ((c.toList.drop off).take n).toArray = c.extract off (off + n) := by apply Array.ext'; simp
  rw [e] at this; exact this
theorem part_ok {t : TypeId} {off : Nat} {y : Opd} {x : Value} {v : Value} {ao : AOp} (hc : cPart P t off y = some ao) (hv : aVal env h ao = some v) (h0 : VR μ (y.val env) x) :
    ∃ cs u, x = .agg cs ∧ (part t cs off).run P w = .ok u w ∧ VR μ v u := by
  unfold cPart at hc
  simp only [Option.pure_def, Option.bind_eq_bind, Option.bind_eq_some_iff] at hc
  obtain ⟨ag, hag, hc⟩ := hc
  cases ag with
  | true =>
    simp only [if_true, Option.bind_eq_some_iff] at hc
    obtain ⟨n, hn, e⟩ := hc
    cases e
    simp only [aVal] at hv
    split at hv
    · rename_i cs hx
      rw [hx] at h0
      cases hv
      cases h0 with
      | agg hs hg => exact ⟨_, _, rfl, run_partN hag hn, VRs.part (VRs.of_agg hs hg)⟩
    · cases hv
  | false =>
    simp only [Bool.false_eq_true, if_false] at hc
    cases hc
    simp only [aVal] at hv
    split at hv
    · rename_i cs hx
      rw [hx] at h0
      cases h0 with
      | agg hs hg =>
        obtain ⟨u, hu, hr⟩ := (VRs.of_agg hs hg).get hv
        exact ⟨_, u, rfl, run_part1 hag hu, hr⟩
    · cases hv
theorem val_field {o : Oper} {ao : AOp} {v : Value} {t : TypeId} {x : Operand} {i : Nat} (hop : o.op = .field t x i) (hc : cOp P o = some ao) (hv : aVal env h ao = some v) (H : HR P B0 μ h w)
    (hE : opdR μ env ρ o.op.operands.toList) : ExV P w μ (execOp ρ o) v := by
  have he : execOp ρ o = (do pure (.value (← Instr.field t (ρ x) i))) := by unfold execOp; rw [hop]
  unfold cOp at hc
  rw [hop] at hc hE
  rw [he]
  clear he
  simp only [Option.pure_def, Option.bind_eq_bind, Option.bind_eq_some_iff] at hc
  obtain ⟨fs, hfs, f, hf, y, hy, hc⟩ := hc
  have hu : P.underlying t = some (.struct fs) := by
    unfold structFields at hfs
    split at hfs
    · rename_i hd; cases hfs; exact hd
    · cases hfs
  obtain ⟨cs, u, hcx, hrun, hr⟩ := part_ok (P := P) (w := w) hc hv (hE x (by simp [Op.operands]) y hy)
  refine ExV.of (cv := u) ?_ hr
  simp only [Instr.field, Sem.run_bind, run_ty hu, Result.andThen_ok, hf, hcx, asAgg, Sem.run_pure, hrun]
theorem val_indexAddr {o : Oper} {ao : AOp} {v : Value} {t : TypeId} {x i : Operand} (hop : o.op = .indexAddr t x i) (hc : cOp P o = some ao) (hv : aVal env h ao = some v) (H : HR P B0 μ h w)
    (hE : opdR μ env ρ o.op.operands.toList) : ExV P w μ (execOp ρ o) v := by
  have he : execOp ρ o = (do pure (.value (← Instr.indexAt t (ρ x) (ρ i)))) := by unfold execOp; rw [hop]
  unfold cOp at hc
  rw [hop] at hc hE
  rw [he]
  clear he
  simp only [Option.pure_def, Option.bind_eq_bind, Option.bind_eq_some_iff] at hc
  obtain ⟨d, hd, hc⟩ := hc
  have h0 := hE x (by simp [Op.operands])
  have h1 := hE i (by simp [Op.operands])
  split at hc
  · rename_i el
    simp only [Option.bind_eq_some_iff] at hc
    obtain ⟨k, hk, y, hy, z, hz, e⟩ := hc
    cases e
    have h0 := h0 y hy
    have h1 := h1 z hz
    simp only [aVal] at hv
    split at hv
    · rename_i a n c ik j hx hi
      rw [hx] at h0; rw [hi] at h1
      split at hv
      · rename_i hj
        cases hv
        generalize ρ i = ci at h1 ⊢
        cases h1
        have hrun : ∀ (p : Addr) (c' : Nat), (Instr.indexAt t (.slice (some p) n c') (.int ik j)).run P w = .ok (.pointer (some (p.add (j.toNat * k)))) w := by
          intro p c'
          simp only [Instr.indexAt, asIntOf, Sem.run_bind, Sem.run_pure, Result.andThen_ok, run_ty hd, if_pos hj, run_size hk]
        generalize ρ x = cx at h0 ⊢
        cases h0 with
        | @sl b o len cap cc dd nn kk o' cap' hb hl hc ho hr =>
          refine ExV.of (hrun _ _) ?_
          have ho' : o' = o + dd := by
            rcases ho with h0 | h0
            · exfalso; omega
            · exact h0
          subst ho'
          rw [add_off, add_off, show ∀ a b c : Nat, a + b + c = a + c + b by omega]; exact .ptr hb
        | slDead hb _ _ => exact ExV.of (hrun _ _) (by rw [add_off]; exact .ptrDead hb)
      · cases hv
    · cases hv
  · rename_i n el
    simp only [Option.bind_eq_some_iff] at hc
    obtain ⟨k, hk, y, hy, z, hz, e⟩ := hc
    cases e
    have h0 := h0 y hy
    have h1 := h1 z hz
    simp only [aVal] at hv
    split at hv
    · rename_i a ik j hx hi
      rw [hx] at h0; rw [hi] at h1
      split at hv
      · rename_i hj
        cases hv
        generalize ρ i = ci at h1 ⊢
        cases h1
        have hrun : ∀ (p : Addr), (Instr.indexAt t (.pointer (some p)) (.int ik j)).run P w = .ok (.pointer (some (p.add (j.toNat * k)))) w := by
          intro p
          simp only [Instr.indexAt, asIntOf, Sem.run_bind, Sem.run_pure, Result.andThen_ok, run_ty hd, Instr.sureAddr, if_pos hj, run_size hk]
        generalize ρ x = cx at h0 ⊢
        cases h0 with
        | ptr hb => exact ExV.of (hrun _) (by rw [add_off, add_off, show ∀ a b c : Nat, a + b + c = a + c + b by omega]; exact .ptr hb)
        | ptrDead hb => exact ExV.of (hrun _) (by rw [add_off]; exact .ptrDead hb)
      · cases hv
    · cases hv
  · cases hc
theorem val_index {o : Oper} {ao : AOp} {v : Value} {t : TypeId} {x i : Operand} (hop : o.op = .index t x i) (hc : cOp P o = some ao) (hv : aVal env h ao = some v) (H : HR P B0 μ h w)
    (hE : opdR μ env ρ o.op.operands.toList) : ExV P w μ (execOp ρ o) v := by
  have he : execOp ρ o = (do pure (.value (← Instr.index t (ρ x) (ρ i)))) := by unfold execOp; rw [hop]
  unfold cOp at hc
  rw [hop] at hc hE
  rw [he]
  clear he
  simp only [Option.pure_def, Option.bind_eq_bind, Option.bind_eq_some_iff] at hc
  obtain ⟨d, hd, hc⟩ := hc
  have h0 := hE x (by simp [Op.operands])
  have h1 := hE i (by simp [Op.operands])
  split at hc
  · simp only [Option.bind_eq_some_iff] at hc
    obtain ⟨y, hy, z, hz, e⟩ := hc
    cases e
    have h0 := h0 y hy
    have h1 := h1 z hz
    simp only [aVal] at hv
    split at hv
    · rename_i s ik j hx hi
      rw [hx] at h0; rw [hi] at h1
      split at hv
      · rename_i hj
        obtain ⟨b, hb, rfl⟩ := Option.map_eq_some_iff.1 hv
        generalize ρ i = ci at h1 ⊢
        generalize ρ x = cx at h0 ⊢
        cases h1; cases h0
        refine ExV.of ?_ (.int _ _)
        have hb' : s[j.toNat]? = some b := by
          rw [Array.getElem?_toList] at hb
          have hlt := (Array.getElem?_eq_some_iff.1 hb).1
          have : j.toNat < s.size := hlt
          rw [getElem?_pos s j.toNat this]
          have e2 := (Array.getElem?_eq_some_iff.1 hb).2
          congr 1
        simp only [Instr.index, asIntOf, Sem.run_bind, Sem.run_pure, Result.andThen_ok, run_ty hd, if_pos hj, hb']
      · cases hv
    · cases hv
  · rename_i n el
    simp only [Option.bind_eq_some_iff] at hc
    obtain ⟨k, hk, ag, hag, y, hy, z, hz, e⟩ := hc
    cases e
    have h0 := h0 y hy
    have h1 := h1 z hz
    simp only [aVal] at hv
    split at hv
    · rename_i cs ik j hx hi
      rw [hx] at h0; rw [hi] at h1
      split at hv
      · rename_i hj
        generalize ρ i = ci at h1 ⊢
        generalize ρ x = cx at h0 ⊢
        cases h1
        cases h0 with
        | agg hs hg =>
          cases ag with
          | true =>
            simp only [if_true] at hv
            cases hv
            refine ExV.of ?_ (VRs.part (VRs.of_agg hs hg))
            simp only [Instr.index, asIntOf, Sem.run_bind, Sem.run_pure, Result.andThen_ok, run_ty hd, if_pos hj, run_size hk, run_partN hag hk]
          | false =>
            simp only [Bool.false_eq_true, if_false] at hv
            obtain ⟨u, hu, hr⟩ := (VRs.of_agg hs hg).get hv
            refine ExV.of (cv := u) ?_ hr
            simp only [Instr.index, asIntOf, Sem.run_bind, Sem.run_pure, Result.andThen_ok, run_ty hd, if_pos hj, run_size hk, run_part1 hag hu]
      · cases hv
    · cases hv
  · cases hc
end Go.AM
end

section
namespace Go.AM
variable {P : Program} {B0 : Nat × Nat} {κ : Ctx} {μ : Mu} {h : Heap} {w : World} {env : Env} {ρ : Operand → Value}
theorem tyZeroV_some {t : TypeId} {z : Value} (e : tyZeroV P t = some z) : (P.info? t).bind (·.zero) = some z ∧ constOk z = true := by
  unfold tyZeroV at e
  split at e
  · rename_i v hv
    split at e
    · cases e; exact ⟨hv, by assumption⟩
    · cases e
  · cases e
theorem pair_VR {a b : Value} {t : Bool} (hr : VR μ a b) : VR μ (.tuple #[a, .bool t]) (.tuple #[b, .bool t]) :=
  VRs.tuple (l := [a, .bool t]) (m := [b, .bool t]) (.cons hr (.cons (.bool t) .nil))
theorem val_typeAssert {o : Oper} {ao : AOp} {v : Value} {x : Operand} {u t : TypeId} {ok : Bool} (hop : o.op = .typeAssert x u t ok) (hc : cOp P o = some ao) (hv : aVal env h ao = some v) (H : HR P B0 μ h w)
    (hE : opdR μ env ρ o.op.operands.toList) : ExV P w μ (execOp ρ o) v := by
  have he : execOp ρ o = (do pure (.value (← Instr.typeAssert (ρ x) u t ok))) := by unfold execOp; rw [hop]
  unfold cOp at hc
  rw [hop] at hc hE
  rw [he]
  clear he
  simp only [Option.pure_def, Option.bind_eq_bind, Option.bind_eq_some_iff] at hc
  obtain ⟨z, hz, d, hd, hc⟩ := hc
  split at hc
  · cases hc
  · rename_i hni
    simp only [Option.bind_eq_some_iff] at hc
    obtain ⟨y, hy, e⟩ := hc
    cases e
    have h0 := hE x (by simp [Op.operands]) y hy
    have hT : ∀ x, (Instr.typeAssert x u t ok).run P w = match x with
        | .nilIface => (if ok then (do pure (.tuple #[← zeroValue t, .bool false])) else runtimePanic (.typeAssertion (some u) none t "") : Sem Value).run P w
        | .iface s v => if s = t then .ok (if ok then .tuple #[v, .bool true] else v) w else (if ok then (do pure (.tuple #[← zeroValue t, .bool false])) else runtimePanic (.typeAssertion (some u) (some s) t "") : Sem Value).run P w
        | _ => (stuck "TypeAssert: interface value expected" : Sem Value).run P w := by
      intro x
      simp only [Instr.typeAssert, Sem.run_bind, run_ty hd, Result.andThen_ok]
      cases d <;> first | exact absurd rfl (hni _) | (cases x <;> first | rfl | (simp only; split <;> rfl))
    simp only [aVal] at hv
    split at hv
    · rename_i hx
      rw [hx] at h0
      split at hv
      · rename_i hok
        subst hok
        cases hv
        simp only [zeroIf, if_true] at hz
        obtain ⟨hz1, hz2⟩ := tyZeroV_some hz
        generalize ρ x = cx at h0 ⊢
        cases h0
        exact ExV.of (by rw [hT]; simp only [if_true, Sem.run_bind, run_zero hz1, Result.andThen_ok, Sem.run_pure]) (pair_VR (const_VR hz2))
      · cases hv
    · rename_i s vv hx
      rw [hx] at h0
      generalize ρ x = cx at h0 ⊢
      cases h0 with
      | iface _ hr =>
        split at hv
        · rename_i hst
          subst hst
          cases hv
          cases ok
          · exact ExV.of (by rw [hT]; simp only [if_true]; rfl) hr
          · exact ExV.of (by rw [hT]; simp only [if_true]) (pair_VR hr)
        · rename_i hst
          split at hv
          · rename_i hok
            subst hok
            cases hv
            simp only [zeroIf, if_true] at hz
            obtain ⟨hz1, hz2⟩ := tyZeroV_some hz
            exact ExV.of (by rw [hT]; simp only [if_neg hst, if_true, Sem.run_bind, run_zero hz1, Result.andThen_ok, Sem.run_pure]) (pair_VR (const_VR hz2))
          · cases hv
    · cases hv
theorem find_ok {kk0 kk : IntKind} {n : Int} : ∀ {es : List (Value × Value)} {ces : List MapEntry} {r : Option Value} (i : Nat), findInt kk n es = some r →
    es.length = ces.length → (∀ (i : Nat) (e : Value × Value) (c : MapEntry), es[i]? = some e → ces[i]? = some c → (∃ kk m, e.1 = .int kk m ∧ c.key = .int kk m) ∧ VR μ e.2 c.val) →
    ∃ q, Instr.findNow (.int kk0) (.int kk n) ces i = some q ∧ ((r = none ∧ q = none) ∨ ∃ v j u, r = some v ∧ q = some (j, u) ∧ VR μ v u)
  | [], [], r, i, e, _, _ => by simp only [findInt] at e; cases e; exact ⟨none, rfl, .inl ⟨rfl, rfl⟩⟩
  | [], c :: ces, r, i, e, hl, _ => by simp at hl
  | x :: es, [], r, i, e, hl, _ => by simp at hl
  | x :: es, c :: ces, r, i, e, hl, hr => by
    obtain ⟨⟨k', m, hx, hcx⟩, hv⟩ := hr 0 x c rfl rfl
    obtain ⟨x1, x2⟩ := x
    simp only at hx hv
    subst hx
    simp only [findInt] at e
    split at e
    · rename_i hk
      subst hk
      simp only [Instr.findNow, hcx, Instr.sameNow, if_true]
      split at e
      · rename_i hn
        subst hn
        cases e
        simp only [beq_self_eq_true]
        exact ⟨_, rfl, .inr ⟨_, _, _, rfl, rfl, hv⟩⟩
      · rename_i hn
        have : (n == m) = false := by simpa using hn
        simp only [this]
        exact find_ok (i + 1) e (by simpa using hl) fun j a b ha hb => hr (j + 1) a b (by simpa using ha) (by simpa using hb)
    · cases e
theorem val_lookup {o : Oper} {ao : AOp} {v : Value} {t : TypeId} {m k : Operand} {ok : Bool} (hop : o.op = .lookup t m k ok) (hc : cOp P o = some ao) (hv : aVal env h ao = some v) (H : HR P B0 μ h w)
    (hE : opdR μ env ρ o.op.operands.toList) : ExV P w μ (execOp ρ o) v := by
  have he : execOp ρ o = (do pure (.value (← Instr.lookup t (ρ m) (ρ k) ok))) := by unfold execOp; rw [hop]
  unfold cOp at hc
  rw [hop] at hc hE
  rw [he]
  clear he
  simp only [Option.pure_def, Option.bind_eq_bind, Option.bind_eq_some_iff] at hc
  obtain ⟨d, hd, hc⟩ := hc
  split at hc
  · rename_i kt el
    simp only [Option.bind_eq_some_iff] at hc
    obtain ⟨dk, hdk, hc⟩ := hc
    split at hc
    · rename_i kk'
      simp only [Option.bind_eq_some_iff] at hc
      obtain ⟨z, hz, y, hy, y2, hy2, e⟩ := hc
      cases e
      have h0 := hE m (by simp [Op.operands]) y hy
      have h1 := hE k (by simp [Op.operands]) y2 hy2
      obtain ⟨hz1, hz2⟩ := tyZeroV_some hz
      simp only [aVal] at hv
      split at hv
      · rename_i r kk n hx hk
        rw [hx] at h0; rw [hk] at h1
        split at hv
        · rename_i es hes
          generalize ρ m = cm at h0 ⊢
          generalize ρ k = ck at h1 ⊢
          cases h1
          cases h0 with
          | @map r c d n' k' hb =>
            obtain ⟨xx, oo, q1, q2, q3⟩ := H.obj _ _ _ _ _ hb
            rw [hes] at q1; cases q1
            cases oo with
            | map ces clock =>
              obtain ⟨q4, q5⟩ := q3
              have hobj : (getObj c).run P w = .ok (.map ces clock) w := by simp only [getObj, Sem.run, q2]
              have hchk : ∀ b n' , (Instr.checkKey b (n' + 1) kt (.int kk n)).run P w = .ok () w := by
                intro b n'; unfold Instr.checkKey; simp only [Sem.run_bind, run_ty hdk, Result.andThen_ok]; rfl
              have hrun : ∀ q, Instr.findNow (.int kk') (.int kk n) ces.toList 0 = some q → (Instr.lookup t (.map (some c)) (.int kk n) ok).run P w =
                  .ok (match q with
                    | some (_, u) => if ok then .tuple #[u, .bool true] else u
                    | none => if ok then .tuple #[z, .bool false] else z) w := by
                intro q hq
                simp only [Instr.lookup, Sem.run_bind, run_ty hd, Result.andThen_ok, hobj, Sem.run_pure, hchk, Instr.findKey, run_ty hdk, hq]
                cases q with
                | none => simp only [Sem.run_bind, run_zero hz1, Result.andThen_ok, Sem.run_pure]
                | some q => obtain ⟨j, u⟩ := q; simp only [Sem.run_bind, Sem.run_pure, Result.andThen_ok]
              split at hv
              · rename_i v' hf
                cases hv
                obtain ⟨q, hq, hqq⟩ := find_ok (kk0 := kk') (ces := ces.toList) (μ := μ) 0 hf (by simpa using q4) (fun i e c he hc => q5 i e c he (by simpa using hc))
                rcases hqq with ⟨h, _⟩ | ⟨v1, j, u, h1, h2, h3⟩
                · cases h
                · cases h1
                  refine ExV.of (hrun q hq) ?_
                  subst h2
                  cases ok
                  · exact h3
                  · exact pair_VR h3
              · rename_i hf
                cases hv
                obtain ⟨q, hq, hqq⟩ := find_ok (kk0 := kk') (ces := ces.toList) (μ := μ) 0 hf (by simpa using q4) (fun i e c he hc => q5 i e c he (by simpa using hc))
                rcases hqq with ⟨_, h⟩ | ⟨v1, j, u, h1, h2, h3⟩
                · refine ExV.of (hrun q hq) ?_
                  subst h
                  cases ok
                  · exact const_VR hz2
                  · exact pair_VR (const_VR hz2)
                · cases h1
              · cases hv
            | _ => exact q3.elim
          | mapDead hb => rw [H.dead _ hb] at hes; cases hes
        · cases hv
      · cases hv
    · cases hc
  · cases hc
theorem VR_int {k : IntKind} {n : Int} {c : Value} (hr : VR μ (.int k n) c) : c = .int k n := by cases hr; rfl
theorem val_call {o : Oper} {ao : AOp} {v : Value} {c : Call} (hop : o.op = .call c) (hc : cOp P o = some ao) (hv : aVal env h ao = some v)
    (hE : opdR μ env ρ o.op.operands.toList) : ExV P w μ (execOp ρ o) v := by
  have he : execOp ρ o = (do let d ← resolve ρ c o.type; invoke d.target d.args) := by unfold execOp; rw [hop]
  unfold cOp at hc
  rw [hop] at hc hE
  rw [he]
  clear he
  have hargs : ∀ (i : Nat) (x : Operand), c.args[i]? = some x → x ∈ (Op.call c).operands.toList := by
    intro i x hx
    have : x ∈ c.args.toList := List.mem_of_getElem? (i := i) (by simpa using hx)
    simp only [Op.operands, Call.operands, Array.toList_append, List.mem_append]
    exact .inr this
  have hbi : ∀ b, c.callee = .builtin b → (do let d ← resolve ρ c o.type; invoke d.target d.args : Sem Next) = builtin b c.argTypes o.type (c.args.map fun | .const _ => true | _ => false) (c.args.map ρ) := by
    intro b hb
    unfold resolve
    rw [hb]
    rfl
  dsimp only at hc
  split at hc
  · simp only [Option.pure_def, Option.bind_eq_bind, Option.bind_eq_some_iff] at hc
    obtain ⟨y, hy, l, hl, e⟩ := hc
    cases e; simp [aVal] at hv
  · simp only [Option.pure_def, Option.bind_eq_bind, Option.bind_eq_some_iff] at hc
    obtain ⟨y, hy, l, hl, e⟩ := hc
    cases e; simp [aVal] at hv
  · rename_i b hcal
    rw [hbi _ hcal]
    unfold cBuiltin at hc
    split at hc
    · rename_i t ts x xs h1 h2
      have ht : c.argTypes[0]? = some t := by rw [← Array.getElem?_toList, h1]; rfl
      have hx : c.args[0]? = some x := by rw [← Array.getElem?_toList, h2]; rfl
      have hx' : (c.args.map ρ)[0]? = some (ρ x) := by simp [hx]
      have h0 := hE x (hargs 0 x hx)
      have hlen : ∀ (u : Value), (Builtin.len_ c.argTypes o.type (c.args.map ρ)).run P w = .ok u w → VR μ v u → ExV P w μ (builtin .len c.argTypes o.type (c.args.map fun | .const _ => true | _ => false) (c.args.map ρ)) v := by
        intro u hu hr
        exact ExV.of hu hr
      unfold cLen at hc
      split at hc
      · rename_i hd
        obtain ⟨y, hy, e⟩ := Option.map_eq_some_iff.1 hc
        cases e
        have h0 := h0 y hy
        simp only [aVal] at hv
        split at hv
        · rename_i s hs
          rw [hs] at h0; cases hv
          generalize ρ x = cx at h0 hx'
          cases h0
          exact hlen _ (by simp only [Builtin.len_, ht, hx', Sem.run_bind, run_ty hd, Result.andThen_ok, Sem.run_pure, goInt]) (.int _ _)
        · cases hv
      · rename_i hd
        obtain ⟨y, hy, e⟩ := Option.map_eq_some_iff.1 hc
        cases e
        have h0 := h0 y hy
        simp only [aVal] at hv
        split at hv
        · rename_i a n cp hs
          rw [hs] at h0; cases hv
          generalize ρ x = cx at h0 hx'
          cases h0 <;> exact hlen _ (by simp only [Builtin.len_, ht, hx', Sem.run_bind, run_ty hd, Result.andThen_ok, Sem.run_pure, goInt]) (.int _ _)
        · cases hv
      · rename_i hd
        cases hc
        cases hv
        refine hlen _ ?_ (.int _ _)
        have hr : ∀ y : Value, (Builtin.len_ c.argTypes o.type (c.args.map ρ)).run P w = ((do
            let d ← underlying t
            match d, y with
            | .string, .string s => pure (goInt s.size)
            | .array n _, _ => pure (goInt n)
            | _, _ => stuck "" : Sem Value)).run P w := by
          intro y
          simp only [Builtin.len_, ht, hx', Sem.run_bind, run_ty hd, Result.andThen_ok]
        rw [hr (.bool true)]
        simp only [Sem.run_bind, run_ty hd, Result.andThen_ok, Sem.run_pure, goInt]
      · cases hc
    · unfold cAppend at hc
      simp only [Option.pure_def, Option.bind_eq_bind, Option.bind_eq_some_iff] at hc
      obtain ⟨_, _, _, _, _, _, _, _, hc⟩ := hc
      split at hc
      · cases hc
      · simp only [Option.bind_eq_some_iff] at hc
        obtain ⟨_, _, _, _, e⟩ := hc
        cases e; simp [aVal] at hv
    · unfold cCopy at hc
      simp only [Option.pure_def, Option.bind_eq_bind, Option.bind_eq_some_iff] at hc
      obtain ⟨_, _, _, _, _, _, _, _, e⟩ := hc
      cases e; simp [aVal] at hv
    · unfold cClear at hc
      simp only [Option.pure_def, Option.bind_eq_bind, Option.bind_eq_some_iff] at hc
      obtain ⟨_, _, _, _, _, _, hc⟩ := hc
      split at hc
      · cases hc
      · simp only [Option.bind_eq_some_iff] at hc
        obtain ⟨_, _, e⟩ := hc
        cases e; simp [aVal] at hv
    · rename_i x y h2
      simp only [Option.pure_def, Option.bind_eq_bind, Option.bind_eq_some_iff] at hc
      obtain ⟨x', hx', y', hy', e⟩ := hc
      cases e
      have hx : c.args[0]? = some x := by rw [← Array.getElem?_toList, h2]; rfl
      have hy : c.args[1]? = some y := by rw [← Array.getElem?_toList, h2]; rfl
      have h0 := hE x (hargs 0 x hx) x' hx'
      have h1 := hE y (hargs 1 y hy) y' hy'
      simp only [aVal] at hv
      split at hv
      · rename_i k a k' b hs1 hs2
        rw [hs1] at h0; rw [hs2] at h1; cases hv
        have e1 := VR_int h0
        have e2 := VR_int h1
        refine ExV.of (cv := .int k (if b > a then b else a)) ?_ (.int _ _)
        simp only [Builtin.max_, Array.toList_map, h2, List.map_cons, List.map_nil, e1, e2, List.foldlM_cons, List.foldlM_nil, Builtin.max2, pure_bind, Sem.run_pure]
      · cases hv
    · rename_i x y h2
      simp only [Option.pure_def, Option.bind_eq_bind, Option.bind_eq_some_iff] at hc
      obtain ⟨x', hx', y', hy', e⟩ := hc
      cases e
      have hx : c.args[0]? = some x := by rw [← Array.getElem?_toList, h2]; rfl
      have hy : c.args[1]? = some y := by rw [← Array.getElem?_toList, h2]; rfl
      have h0 := hE x (hargs 0 x hx) x' hx'
      have h1 := hE y (hargs 1 y hy) y' hy'
      simp only [aVal] at hv
      split at hv
      · rename_i k a k' b hs1 hs2
        rw [hs1] at h0; rw [hs2] at h1; cases hv
        have e1 := VR_int h0
        have e2 := VR_int h1
        refine ExV.of (cv := .int k (if b < a then b else a)) ?_ (.int _ _)
        simp only [Builtin.min_, Array.toList_map, h2, List.map_cons, List.map_nil, e1, e2, List.foldlM_cons, List.foldlM_nil, Builtin.min2, pure_bind, Sem.run_pure]
      · cases hv
    · cases hc
end Go.AM
end

section
namespace Go.AM
variable {P : Program} {B0 : Nat × Nat} {κ : Ctx} {μ : Mu} {h : Heap} {w : World} {env : Env} {ρ : Operand → Value}
theorem val_ok {o : Oper} {ao : AOp} {v : Value} (hc : cOp P o = some ao) (hv : aVal env h ao = some v) (H : HR P B0 μ h w)
    (hE : opdR μ env ρ o.op.operands.toList) : ExV P w μ (execOp ρ o) v := by
  have hno : ∀ {ao}, cOp P o = some ao → aVal env h ao = some v → (∀ x, aVal env h ao = some x → False) → ExV P w μ (execOp ρ o) v := fun _ h1 h2 => (h2 _ h1).elim
  cases hop : o.op with
  | move x => exact val_move hop hc hv H hE
  | assign x => exact val_assign hop hc hv H hE
  | pick c a b => exact val_pick hop hc hv H hE
  | load t a => exact val_load hop hc hv H hE
  | nilCheck x => exact val_nilCheck hop hc hv hE
  | binOp op t x y u => exact val_binOp hop hc hv hE
  | unOp op t x => exact val_unOp hop hc hv H hE
  | convert s d x => exact val_convert hop hc hv H hE
  | makeInterface t x => exact val_makeInterface hop hc hv H hE
  | makeFunc fn a b => exact val_makeFunc hop hc hv H hE
  | slice t x lo hi mx => exact val_slice hop hc hv H hE
  | fieldAddr s x i => exact val_fieldAddr hop hc hv H hE
  | field t x i => exact val_field hop hc hv H hE
  | indexAddr t x i => exact val_indexAddr hop hc hv H hE
  | index t x i => exact val_index hop hc hv H hE
  | lookup t m k ok => exact val_lookup hop hc hv H hE
  | typeAssert x u t ok => exact val_typeAssert hop hc hv H hE
  | extract x i => exact val_extract hop hc hv H hE
  | call c => exact val_call hop hc hv hE
  | build t ps => exact val_build hop hc hv H hE
  | next x b =>
    unfold cOp at hc; rw [hop] at hc
    cases b
    · cases hc
    · simp only [Option.pure_def, Option.bind_eq_bind, Option.bind_eq_some_iff] at hc
      obtain ⟨y, hy, e⟩ := hc; cases e; simp [aVal] at hv
  | alloc e =>
    unfold cOp at hc; rw [hop] at hc
    simp only [Option.pure_def, Option.bind_eq_bind, Option.bind_eq_some_iff] at hc
    obtain ⟨y, hy, e⟩ := hc; cases e; simp [aVal] at hv
  | box e x =>
    unfold cOp at hc; rw [hop] at hc
    simp only [Option.pure_def, Option.bind_eq_bind, Option.bind_eq_some_iff] at hc
    obtain ⟨y, hy, e⟩ := hc; cases e; simp [aVal] at hv
  | buildSlice t n ps =>
    unfold cOp at hc; rw [hop] at hc
    simp only [Option.pure_def, Option.bind_eq_bind, Option.bind_eq_some_iff] at hc
    obtain ⟨_, _, _, _, _, _, hc⟩ := hc
    split at hc
    · cases hc
    · simp only [Option.bind_eq_some_iff] at hc
      obtain ⟨_, _, e⟩ := hc; cases e; simp [aVal] at hv
  | makeSlice t n c =>
    unfold cOp at hc; rw [hop] at hc
    simp only [Option.pure_def, Option.bind_eq_bind, Option.bind_eq_some_iff] at hc
    obtain ⟨_, _, _, _, _, _, hc⟩ := hc
    split at hc
    · cases hc
    · simp only [Option.bind_eq_some_iff] at hc
      obtain ⟨_, _, _, _, _, _, e⟩ := hc; cases e; simp [aVal] at hv
  | store t a x =>
    unfold cOp at hc; rw [hop] at hc
    simp only [Option.pure_def, Option.bind_eq_bind, Option.bind_eq_some_iff] at hc
    obtain ⟨_, _, _, _, _, _, e⟩ := hc; cases e; simp [aVal] at hv
  | insert t m k x =>
    unfold cOp at hc; rw [hop] at hc
    simp only [Option.pure_def, Option.bind_eq_bind, Option.bind_eq_some_iff] at hc
    obtain ⟨_, _, hc⟩ := hc
    split at hc
    · simp only [Option.bind_eq_some_iff] at hc
      obtain ⟨_, _, hc⟩ := hc
      split at hc
      · simp only [Option.bind_eq_some_iff] at hc
        obtain ⟨_, _, _, _, _, _, e⟩ := hc; cases e; simp [aVal] at hv
      · cases hc
    · cases hc
  | makeMap t r =>
    unfold cOp at hc; rw [hop] at hc
    have : ao = .makeMap := by
      cases r with
      | none =>
        simp only [Option.pure_def, Option.bind_eq_bind, Option.bind_eq_some_iff] at hc
        obtain ⟨_, _, hc⟩ := hc
        split at hc
        · simp only [Option.bind_eq_some_iff] at hc
          obtain ⟨_, _, hc⟩ := hc
          split at hc
          · cases hc; rfl
          · cases hc
        · cases hc
      | some q =>
        cases q <;> try (cases hc; done)
        rename_i vv
        cases vv <;> try (cases hc; done)
        simp only [Option.pure_def, Option.bind_eq_bind, Option.bind_eq_some_iff] at hc
        obtain ⟨_, _, hc⟩ := hc
        split at hc
        · simp only [Option.bind_eq_some_iff] at hc
          obtain ⟨_, _, hc⟩ := hc
          split at hc
          · cases hc; rfl
          · cases hc
        · cases hc
    subst this; simp [aVal] at hv
  | range t x =>
    unfold cOp at hc; rw [hop] at hc
    simp only [Option.pure_def, Option.bind_eq_bind, Option.bind_eq_some_iff] at hc
    obtain ⟨_, _, hc⟩ := hc
    split at hc
    · simp only [Option.bind_eq_some_iff] at hc
      obtain ⟨_, _, e⟩ := hc; cases e; simp [aVal] at hv
    · cases hc
  | _ => unfold cOp at hc; rw [hop] at hc; cases hc
def NewV (P : Program) (w : World) (μ : Mu) (s : Sem Next) (x : AObj) (mk : Nat → Value) : Prop :=
  ∃ (o : Obj) (n k : Nat) (cv : Value), s.run P w = .ok (.value cv) (w.alloc o) ∧
    ∀ (μ' : Mu) (b : Nat), Mu.le μ μ' → μ' b = .at w.heap.size 0 n k → (∀ low : Prop, OR P μ' low x o 0 n k) ∧ VR μ' (mk b) cv
theorem OR.of_cells {μ' : Mu} {l : List Value} {cc : Array Value} {e : TypeId} (hr : VRs μ' l cc.toList) (low : Prop) : OR P μ' low (.cells l e) (.cells cc e) 0 cc.size (P.cellsOf e) := by
  refine ⟨rfl, by have := hr.1; simp at this; omega, .inr ⟨rfl, rfl, fun _ => ⟨rfl, by have := hr.1; simp at this; omega⟩⟩, rfl, fun i v hi => ?_⟩
  obtain ⟨u, hu, hr⟩ := hr.get hi
  exact ⟨u, by simpa using hu, hr⟩
theorem newRow_run {e : TypeId} {cc : Array Value} : (newRow e cc).run P w = .ok ⟨w.heap.size, 0, none⟩ (w.alloc (.cells cc e)) := rfl
theorem zeros_eq {z : List Value} {n s : Nat} (hz : z.length = s) :
    ((Array.range (n * s)).map fun i => (if n * s = 0 then #[] else z.toArray : Array Value)[i % (if n * s = 0 then #[] else z.toArray : Array Value).size]!).toList = (List.replicate n z).flatten := by
  by_cases h0 : n * s = 0
  · rw [h0]
    have : (List.replicate n z).flatten = [] := by
      rcases Nat.mul_eq_zero.1 h0 with rfl | h
      · rfl
      · have : z = [] := by cases z with | nil => rfl | cons a l => simp at hz; omega
        subst this; simp
    rw [this]; simp
  · rw [if_neg h0]
    have key : ∀ (n : Nat) (i : Nat), i < n * s → (List.replicate n z).flatten[i]? = z[i % s]? := by
      intro n
      induction n with
      | zero => intro i hi; omega
      | succ n ih =>
        intro i hi
        simp only [List.replicate_succ, List.flatten_cons]
        by_cases h1 : i < s
        · rw [List.getElem?_append_left (by omega), Nat.mod_eq_of_lt h1]
        · rw [List.getElem?_append_right (by omega), hz, ih (i - s) (by rw [Nat.succ_mul] at hi; omega)]
          congr 1
          exact (Nat.mod_eq_sub_mod (by omega)).symm
    have hs : 0 < s := Nat.pos_of_ne_zero fun e => h0 (by rw [e]; rfl)
    apply List.ext_getElem?
    intro i
    by_cases hi : i < n * s
    · rw [key n i hi]
      have h1 : i % s < z.length := by rw [hz]; exact Nat.mod_lt _ hs
      simp only [Array.toList_map, Array.toList_range, List.getElem?_map, List.getElem?_range hi, Option.map_some]
      have h2 : i % z.toArray.size < z.toArray.size := by simp; rw [hz]; exact Nat.mod_lt _ hs
      rw [getElem!_pos z.toArray _ h2]
      simp [hz, h1]
    · have e1 : (List.replicate n z).flatten.length = n * s := by simp [hz]
      rw [List.getElem?_eq_none (by simp; omega), List.getElem?_eq_none (by omega)]
theorem fillL_length : ∀ {ps : List (Nat × Nat × Value)} {z l : List Value}, fillL z ps = some l → l.length = z.length
  | [], z, l, e => by simp only [fillL] at e; cases e; rfl
  | (off, size, v) :: ps, z, l, e => by
    simp only [fillL] at e
    split at e
    · rename_i hc
      rw [fillL_length e, putAt_length (by have : v.cells.toList.length = size := by simpa using hc.1
                                           omega)]
    · cases e
theorem wrap_small {n : Int} (h0 : 0 ≤ n) (h1 : n ≤ 35184372088832) : IntKind.i64.wrap n = n := by
  have e1 : IntKind.i64.bits = 64 := rfl
  unfold IntKind.wrap
  rw [e1]
  have : n % (2 ^ 64 : Int) = n := Int.emod_eq_of_lt h0 (by omega)
  simp only [this]
  rw [if_neg]
  simp only [Bool.and_eq_true, decide_eq_true_eq, not_and]
  intro _
  omega
theorem new_ok {o : Oper} {ao : AOp} {x : AObj} {mk : Nat → Value} (hc : cOp P o = some ao) (hv : aNew env ao = some (x, mk))
    (hE : opdR μ env ρ o.op.operands.toList) : NewV P w μ (execOp ρ o) x mk := by
  have hptr : ∀ {e : TypeId} {l : List Value} {cc : Array Value} {s : Sem Value}, s.run P w = .ok (.pointer (some ⟨w.heap.size, 0, none⟩)) (w.alloc (.cells cc e)) → VRs μ l cc.toList →
      NewV P w μ (do pure (.value (← s))) (.cells l e) (fun b => .pointer (some ⟨b, 0, none⟩)) := by
    intro e l cc s hs hr
    refine ⟨_, _, _, _, by simp only [Sem.run_bind, hs, Result.andThen_ok, Sem.run_pure], fun μ' b hle hb => ⟨fun low => OR.of_cells (hr.mono hle) low, .ptr (o := 0) (d := 0) hb⟩⟩
  cases hop : o.op with
  | alloc e =>
    have he : execOp ρ o = (do pure (.value (← Instr.alloc e true (.tuple #[])))) := by unfold execOp; rw [hop]
    unfold cOp at hc; rw [hop] at hc
    simp only [Option.pure_def, Option.bind_eq_bind, Option.bind_eq_some_iff] at hc
    obtain ⟨z, hz, e'⟩ := hc; cases e'
    cases hv
    obtain ⟨zv, hzv, rfl, hzc⟩ := tyZero_some hz
    rw [he]
    exact hptr (by simp only [Instr.alloc, Sem.run_bind, run_zero hzv, Result.andThen_ok, newVar, newRow_run, Sem.run_pure]) (consts_VRs hzc)
  | box e y =>
    have he : execOp ρ o = (do pure (.value (← Instr.box e (ρ y)))) := by unfold execOp; rw [hop]
    unfold cOp at hc; rw [hop] at hc hE
    simp only [Option.pure_def, Option.bind_eq_bind, Option.bind_eq_some_iff] at hc
    obtain ⟨y', hy, e'⟩ := hc; cases e'
    simp only [aNew] at hv
    split at hv
    · cases hv
      rw [he]
      exact hptr (by simp only [Instr.box, Sem.run_bind, Result.andThen_ok, newVar, newRow_run, Sem.run_pure]) (VR_cells (hE y (by simp [Op.operands]) y' hy))
    · cases hv
  | buildSlice t n ps =>
    have he : execOp ρ o = (do pure (.value (← Instr.buildSlice t n (ps.map fun (i, x) => (i, ρ x))))) := by unfold execOp; rw [hop]
    unfold cOp at hc; rw [hop] at hc hE
    simp only [Option.pure_def, Option.bind_eq_bind, Option.bind_eq_some_iff] at hc
    obtain ⟨e, hel, s, hs, z, hz, hc⟩ := hc
    have hu : P.underlying t = some (.slice e) := by
      unfold sliceElem at hel
      split at hel
      · rename_i hd; cases hel; exact hd
      · cases hel
    split at hc
    · cases hc
    · rename_i hcond
      simp only [Bool.or_eq_true, decide_eq_true_eq, bne_iff_ne, ne_eq, not_or, Classical.not_not] at hcond
      simp only [Option.bind_eq_some_iff] at hc
      obtain ⟨qs, hq, e'⟩ := hc; cases e'
      simp only [aNew, Option.map_eq_some_iff] at hv
      obtain ⟨l, hl, e2⟩ := hv; cases e2
      obtain ⟨zv, hzv, rfl, hzc⟩ := tyZero_some hz
      have hmem : ∀ p ∈ ps.toList, p.2 ∈ (Op.buildSlice t n ps).operands.toList := by
        intro p hp; simp only [Op.operands, List.mem_map]; exact ⟨p, hp, rfl⟩
      have hzeros := zeros_eq (n := n) hcond.2
      obtain ⟨cl, h1, h2⟩ := fill_ok (cz := (Array.range (n * s)).map fun i => (if n * s = 0 then #[] else zv.cells.toList.toArray : Array Value)[i % (if n * s = 0 then #[] else zv.cells.toList.toArray : Array Value).size]!)
        hq (cParts_mem hE hmem) (by rw [hzeros]; exact (consts_VRs hzc).replicate n) hl
      rw [he]
      refine ⟨_, _, _, _, ?_, fun μ' b hle hb => ⟨fun low => OR.of_cells (cc := cl) (h2.mono hle) low, .sl (o := 0) (d := 0) (cap' := n) hb (Nat.le_refl _) (Nat.le_refl _) (.inr rfl) ?_⟩⟩
      · by_cases hz0 : n * s = 0
        · simp only [if_pos hz0] at h1
          simp only [Instr.buildSlice, Sem.run_bind, run_ty hu, Result.andThen_ok, run_size hs, if_neg hcond.1, if_pos hz0, Sem.run_pure, Array.toList_map, h1, newRow_run]
        · simp only [if_neg hz0] at h1
          simp only [Instr.buildSlice, Sem.run_bind, run_ty hu, Result.andThen_ok, run_size hs, if_neg hcond.1, if_neg hz0, run_zero hzv, Sem.run_pure, Array.toList_map, Array.toArray_toList, h1, newRow_run]
      · have hlen : cl.size = n * s := by
          have e1 := h2.1
          have e2 : l.length = n * s := by
            rw [fillL_length hl]
            have := congrArg List.length hzeros
            simp only [Array.length_toList, Array.size_map, Array.size_range] at this
            exact this.symm
          simp at e1; omega
        rw [tySize_cellsOf hs, hlen]; omega
  | makeSlice t n c =>
    have he : execOp ρ o = (do pure (.value (← Instr.makeSlice t (ρ n) (ρ c)))) := by unfold execOp; rw [hop]
    unfold cOp at hc; rw [hop] at hc hE
    simp only [Option.pure_def, Option.bind_eq_bind, Option.bind_eq_some_iff] at hc
    obtain ⟨e, hel, z, hz, s, hs, hc⟩ := hc
    have hu : P.underlying t = some (.slice e) := by
      unfold sliceElem at hel
      split at hel
      · rename_i hd; cases hel; exact hd
      · cases hel
    split at hc
    · cases hc
    · rename_i hcond
      simp only [Bool.or_eq_true, beq_iff_eq, bne_iff_ne, ne_eq, not_or, Classical.not_not] at hcond
      simp only [Option.bind_eq_some_iff] at hc
      obtain ⟨by_, hby, n', hn, c', hc', e'⟩ := hc; cases e'
      have h0 := hE n (by simp [Op.operands]) n' hn
      have h1 := hE c (by simp [Op.operands]) c' hc'
      obtain ⟨zv, hzv, rfl, hzc⟩ := tyZero_some hz
      obtain ⟨i, hi, hib⟩ := run_bytes hby
      simp only [aNew] at hv
      split at hv
      · rename_i k1 nn k2 cc hnn hcc
        rw [hnn] at h0; rw [hcc] at h1
        have e1 := VR_int h0
        have e2 := VR_int h1
        split at hv
        · rename_i hb
          cases hv
          obtain ⟨b1, b2, b3, b4⟩ := hb
          have hzeros := zeros_eq (n := cc.toNat) hcond.1
          rw [he]
          refine ⟨.cells ((Array.range (cc.toNat * s)).map fun i => (if cc.toNat * s = 0 then #[] else zv.cells.toList.toArray : Array Value)[i % (if cc.toNat * s = 0 then #[] else zv.cells.toList.toArray : Array Value).size]!) e, cc.toNat * s, P.cellsOf e,
            .slice (some ⟨w.heap.size, 0, none⟩) nn.toNat cc.toNat, ?_, fun μ' b hle hb => ⟨fun low => ?_, ?_⟩⟩
          · have w1 : IntKind.i64.wrap nn = nn := wrap_small b1 (by omega)
            have w2 : IntKind.i64.wrap cc = cc := wrap_small (by omega) b4
            have t1 : (decide (cc < 0) || decide ((i.bytes : Int) * cc > 2 ^ 48)) = false := by
              rw [hib]
              have : (by_ : Int) * cc ≤ 35184372088832 := by rw [Int.mul_comm]; exact b3
              simp; omega
            have t2 : (decide (cc < 0) || decide ((i.bytes : Int) * cc > 2 ^ 48) || decide (nn < 0) || decide (nn > cc)) = false := by
              rw [t1]; simp; omega
            simp only [Instr.makeSlice, e1, e2, asInt, asIntOf, Sem.run_bind, run_ty hu, Result.andThen_ok, Sem.run_pure, run_info hi, w1, w2, t2, Bool.false_eq_true, if_false, run_askRoom, run_size hs]
            by_cases hz0 : cc.toNat * s = 0
            · simp only [if_pos hz0, Sem.run_bind, Sem.run_pure, Result.andThen_ok, newRow_run]
            · simp only [if_neg hz0, Sem.run_bind, run_zero hzv, Sem.run_pure, Result.andThen_ok, newRow_run, Array.toArray_toList]
          · have := OR.of_cells (P := P) (μ' := μ') (l := (List.replicate cc.toNat zv.cells.toList).flatten) (e := e)
              (cc := (Array.range (cc.toNat * s)).map fun i => (if cc.toNat * s = 0 then #[] else zv.cells.toList.toArray : Array Value)[i % (if cc.toNat * s = 0 then #[] else zv.cells.toList.toArray : Array Value).size]!)
              (by rw [hzeros]; exact (consts_VRs hzc).replicate _) low
            simpa using this
          · refine .sl (o := 0) (d := 0) hb (by omega) (Nat.le_refl _) (.inr rfl) ?_
            rw [tySize_cellsOf hs]; omega
        · cases hv
      · cases hv
  | makeMap t r =>
    have he : execOp ρ o = (do pure (.value (← Instr.makeMap t (r.map ρ)))) := by unfold execOp; rw [hop]
    unfold cOp at hc; rw [hop] at hc
    have hm : ao = .makeMap ∧ (Instr.makeMap t (r.map ρ)).run P w = .ok (.map (some w.heap.size)) (w.alloc (.map #[] 0)) := by
      cases r with
      | none =>
        simp only [Option.pure_def, Option.bind_eq_bind, Option.bind_eq_some_iff] at hc
        obtain ⟨_, _, hc⟩ := hc
        split at hc
        · simp only [Option.bind_eq_some_iff] at hc
          obtain ⟨_, _, hc⟩ := hc
          split at hc
          · cases hc; exact ⟨rfl, rfl⟩
          · cases hc
        · cases hc
      | some q =>
        cases q <;> try (cases hc; done)
        rename_i vv
        cases vv <;> try (cases hc; done)
        rename_i kq nq
        simp only [Option.pure_def, Option.bind_eq_bind, Option.bind_eq_some_iff] at hc
        obtain ⟨d, hd, hc⟩ := hc
        split at hc
        · simp only [Option.bind_eq_some_iff] at hc
          obtain ⟨_, _, hc⟩ := hc
          split at hc
          · cases hc
            have hE' := hE
            refine ⟨rfl, ?_⟩
            have hq : VR μ (.int kq nq) (ρ (.const (.int kq nq))) := hE (.const (.int kq nq)) (by rw [hop]; simp [Op.operands]) (.c (.int kq nq)) rfl
            have := VR_int hq
            simp only [Instr.makeMap, Option.map_some, this, Sem.run_bind, run_ty hd, Result.andThen_ok, asInt, asIntOf, Sem.run_pure, run_newObj]
            rfl
          · cases hc
        · cases hc
    obtain ⟨rfl, hrun⟩ := hm
    cases hv
    rw [he]
    refine ⟨.map #[] 0, 0, 0, _, by simp only [Sem.run_bind, hrun, Result.andThen_ok, Sem.run_pure], fun μ' b hle hb => ⟨fun low => ?_, .map hb⟩⟩
    exact ⟨rfl, fun i e c he _ => by simp at he⟩
  | range t x =>
    have he : execOp ρ o = (do pure (.value (← Instr.range t (ρ x)))) := by unfold execOp; rw [hop]
    unfold cOp at hc; rw [hop] at hc hE
    simp only [Option.pure_def, Option.bind_eq_bind, Option.bind_eq_some_iff] at hc
    obtain ⟨d, hd, hc⟩ := hc
    split at hc
    · simp only [Option.bind_eq_some_iff] at hc
      obtain ⟨y, hy, e⟩ := hc; cases e
      have h0 := hE x (by simp [Op.operands]) y hy
      simp only [aNew] at hv
      split at hv
      · rename_i s hs
        rw [hs] at h0
        cases hv
        rw [he]
        generalize ρ x = cx at h0 ⊢
        cases h0
        refine ⟨.stringIter s 0, 0, 0, .pointer (some ⟨w.heap.size, 0, none⟩), ?_, fun μ' b hle hb => ⟨fun low => ⟨rfl, rfl, rfl⟩, .ptr (o := 0) (d := 0) hb⟩⟩
        simp only [Instr.range, Sem.run_bind, run_ty hd, Result.andThen_ok, Sem.run_pure, run_newObj]
        rfl
      · cases hv
    · cases hc
  | next y b =>
    exfalso
    unfold cOp at hc; rw [hop] at hc
    cases b
    · cases hc
    · simp only [Option.pure_def, Option.bind_eq_bind, Option.bind_eq_some_iff] at hc
      obtain ⟨_, _, e⟩ := hc; cases e; simp [aNew] at hv
  | _ =>
    exfalso
    unfold cOp at hc
    rw [hop] at hc
    clear hptr hE
    have hno : ∀ {q : AOp}, some q = some ao → aNew env q = none → False := fun e hn => by cases e; rw [hn] at hv; cases hv
    first
      | (cases hc; done)
      | (simp only [Option.pure_def, Option.bind_eq_bind, Option.bind_eq_some_iff] at hc
         repeat' (first
           | (cases hc; done)
           | (exact hno hc rfl)
           | (obtain ⟨_, _, hc⟩ := hc)
           | (simp only [Option.bind_eq_some_iff, Option.map_eq_some_iff] at hc)
           | (unfold cEq at hc)
           | (unfold cPart at hc; simp only [Option.pure_def, Option.bind_eq_bind, Option.bind_eq_some_iff] at hc)
           | (unfold cBuiltin at hc)
           | (unfold cLen at hc)
           | (unfold cAppend at hc; simp only [Option.pure_def, Option.bind_eq_bind, Option.bind_eq_some_iff] at hc)
           | (unfold cCopy at hc; simp only [Option.pure_def, Option.bind_eq_bind, Option.bind_eq_some_iff] at hc)
           | (unfold cClear at hc; simp only [Option.pure_def, Option.bind_eq_bind, Option.bind_eq_some_iff] at hc)
           | (subst hc; simp [aNew] at hv; done)
           | (split at hc))
         all_goals (first | (simp [aNew] at hv; done) | skip))
end Go.AM
end
