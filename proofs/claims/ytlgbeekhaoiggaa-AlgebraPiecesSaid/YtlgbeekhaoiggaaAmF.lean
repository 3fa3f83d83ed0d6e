import Derived.Test.YtlgbeekhaoiggaaAmE
import GoSem.ClaimChange
import Derived.DataElems
set_option linter.all false
section
namespace Go.AM
inductive Dat where
  | bool (b : Bool)
  | int (k : IntKind) (n : Int)
  | str (s : ByteArray)
  | nil
  | sl (l : List Dat)
  | agg (l : List Dat)
def arodF (f : TypeId → List Value → Option Dat) (P : Program) : List Field → List Value → Option (List Dat)
  | [], [] => some []
  | [], _ :: _ => none
  | x :: xs, cs => match f x.type (cs.take (P.cellsOf x.type)), arodF f P xs (cs.drop (P.cellsOf x.type)) with
    | some d, some ds => some (d :: ds)
    | _, _ => none
def arodL (f : List Value → Option Dat) (k : Nat) : Nat → List Value → Option (List Dat)
  | 0, [] => some []
  | 0, _ :: _ => none
  | n + 1, cs => match f (cs.take k), arodL f k n (cs.drop k) with
    | some d, some ds => some (d :: ds)
    | _, _ => none
def arod (P : Program) (h : Heap) : Nat → TypeId → List Value → Option Dat
  | 0, _, _ => none
  | f + 1, t, cs => match P.underlying t, cs with
    | some .bool, [.bool b] => some (.bool b)
    | some (.int k), [.int k' n] => if k' = k ∧ (Lit.int k n).wf = true then some (.int k n) else none
    | some .string, [.string s] => if s.size ≤ maxLen then some (.str s) else none
    | some (.slice _), [.slice none 0 0] => some .nil
    | some (.slice e), [.slice (some ⟨b, 0, none⟩) len cap] => if cap = len ∧ len ≤ maxLen then match h[b]? with
        | some (.cells l e') => if e' = e ∧ l.length = len * P.cellsOf e then (arodL (arod P h f e) (P.cellsOf e) len l).map .sl else none
        | some .dead => if len = 0 then some (.sl []) else none
        | _ => none
      else none
    | some (.struct fs), cs => (arodF (arod P h f) P fs.toList cs).map .agg
    | _, _ => none
def tiles (P : Program) : List Field → Nat → Nat → Bool
  | [], off, total => off == total
  | x :: xs, off, total => x.offset == off && tiles P xs (off + P.cellsOf x.type) total
def impTy (P : Program) : Nat → TypeId → Bool
  | 0, _ => true
  | f + 1, t => match P.underlying t with
    | some .bool | some (.int _) | some .string => true
    | some (.slice e) => decide (0 < P.cellsOf e) && impTy P f e
    | some (.struct fs) => tiles P fs.toList 0 (P.cellsOf t) && fs.toList.all fun x => impTy P f x.type
    | _ => false
def Pre (h h' : Heap) : Prop := ∀ (b : Nat) (y : AObj), h[b]? = some y → h'[b]? = some y
theorem Pre.refl (h : Heap) : Pre h h := fun _ _ e => e
theorem Pre.trans {a b c : Heap} (x : Pre a b) (y : Pre b c) : Pre a c := fun _ _ e => y _ _ (x _ _ e)
theorem Pre.push (h : Heap) (x : AObj) : Pre h (h.push x) := by
  intro b y hy
  have := (Array.getElem?_eq_some_iff.1 hy).1
  rw [Array.getElem?_push_lt this, ← Array.getElem?_eq_getElem]; exact hy
theorem arodF_mono {P : Program} {f g : TypeId → List Value → Option Dat} (hfg : ∀ t cs d, f t cs = some d → g t cs = some d) : ∀ {xs : List Field} {cs : List Value} {ds : List Dat}, arodF f P xs cs = some ds → arodF g P xs cs = some ds
  | [], [], ds, e => e
  | [], _ :: _, ds, e => by simp [arodF] at e
  | x :: xs, cs, ds, e => by
    simp only [arodF] at e ⊢
    split at e
    · rename_i d ds' h1 h2
      rw [hfg _ _ _ h1, arodF_mono hfg h2]; exact e
    · cases e
theorem arodL_mono {f g : List Value → Option Dat} {k : Nat} (hfg : ∀ cs d, f cs = some d → g cs = some d) : ∀ {n : Nat} {cs : List Value} {ds : List Dat}, arodL f k n cs = some ds → arodL g k n cs = some ds
  | 0, [], ds, e => e
  | 0, _ :: _, ds, e => by simp [arodL] at e
  | n + 1, cs, ds, e => by
    simp only [arodL] at e ⊢
    split at e
    · rename_i d ds' h1 h2
      rw [hfg _ _ h1, arodL_mono hfg h2]; exact e
    · cases e
theorem arod_mono {P : Program} {h h' : Heap} (hm : Pre h h') : ∀ (f : Nat) (t : TypeId) (cs : List Value) (d : Dat), arod P h f t cs = some d → arod P h' f t cs = some d
  | 0, t, cs, d, e => by simp [arod] at e
  | f + 1, t, cs, d, e => by
    simp only [arod] at e ⊢
    split at e
    · exact e
    · exact e
    · exact e
    · exact e
    · split at e
      · rename_i hc
        rw [if_pos hc]
        split at e
        · rename_i l e' hb
          rw [hm _ _ hb]
          split at e
          · rename_i h2
            obtain ⟨ds, hd, e⟩ := Option.map_eq_some_iff.1 e
            simp only [if_pos h2, arodL_mono (fun cs d => arod_mono hm f _ cs d) hd, Option.map_some]
            exact congrArg some e
          · cases e
        · rename_i hb; rw [hm _ _ hb]; exact e
        · cases e
      · cases e
    · obtain ⟨ds, hd, e⟩ := Option.map_eq_some_iff.1 e
      simp only [arodF_mono (fun t cs d => arod_mono hm f t cs d) hd, Option.map_some]
      exact congrArg some e
    · cases e
structure LayR (P : Program) (w : World) (μ : Mu) (h : Heap) : Prop where
  blk : ∀ b, b < h.size → (μ b = .dead ∧ h[b]? = some .dead) ∨ ∃ c d n k x o, μ b = .at c d n k ∧ h[b]? = some x ∧ w.heap[c]? = some o ∧ OR P μ True x o d n k
  un : ∀ b, h.size ≤ b → μ b = .un
theorem LayR.none (P : Program) (w : World) : LayR P w (fun _ => .un) #[] := ⟨fun b hb => by simp at hb, fun _ _ => rfl⟩
theorem LayR.hr {P : Program} {w : World} {μ : Mu} {h : Heap} (L : LayR P w μ h) : HR P (h.size, w.heap.size) μ h w := by
  have hat : ∀ b c d n k, μ b = .at c d n k → b < h.size ∧ ∃ x o, h[b]? = some x ∧ w.heap[c]? = some o ∧ OR P μ True x o d n k := by
    intro b c d n k e
    by_cases hb : b < h.size
    · rcases L.blk b hb with ⟨e', _⟩ | ⟨c', d', n', k', x, o, e', h1, h2, h3⟩
      · rw [e] at e'; cases e'
      · rw [e] at e'; cases e'; exact ⟨hb, x, o, h1, h2, h3⟩
    · rw [L.un b (by omega)] at e; cases e
  refine ⟨fun b hb => ?_, fun b hb => ?_, fun b c d n k e => ?_, fun b b' c d n k d' n' k' hc e e' => ?_, fun b c d n k e hb => ?_, ⟨Nat.le_refl _, Nat.le_refl _⟩⟩
  · by_cases h1 : b < h.size
    · exact h1
    · exact absurd (L.un b (by omega)) hb
  · by_cases h1 : b < h.size
    · rcases L.blk b h1 with ⟨_, e'⟩ | ⟨c', d', n', k', x, o, e', _⟩
      · exact e'
      · rw [hb] at e'; cases e'
    · rw [L.un b (by omega)] at hb; cases hb
  · obtain ⟨hb, x, o, h1, h2, h3⟩ := hat b c d n k e
    refine ⟨x, o, h1, h2, ?_⟩
    cases x <;> cases o <;> simp only [OR] at h3 ⊢
    · exact ⟨h3.1, h3.2.1, .inl hb, h3.2.2.2⟩
    · exact h3
    · exact h3
    · exact h3
  · obtain ⟨hb, x, o, h1, h2, h3⟩ := hat b c d n k e
    have := (Array.getElem?_eq_some_iff.1 h2).1
    simp only at hc; omega
  · obtain ⟨hb', _⟩ := hat b c d n k e
    simp only at hb; omega
theorem LayR.st {P : Program} {w : World} {μ : Mu} {h : Heap} (L : LayR P w μ h) : St P (h.size, w.heap.size) ⟨h.size, []⟩ μ h w :=
  ⟨L.hr, Nat.le_refl _, Nat.le_refl _, fun c hc => by simp at hc, fun c hc => by simp at hc⟩
theorem LayR.add {P : Program} {w : World} {μ : Mu} {h : Heap} (L : LayR P w μ h) {m : Mp} {x : AObj} (hm : (m = .dead ∧ x = .dead) ∨ ∃ c d n k o, m = .at c d n k ∧ w.heap[c]? = some o ∧ OR P μ True x o d n k) :
    LayR P w (μ.set h.size m) (h.push x) ∧ Mu.le μ (μ.set h.size m) ∧ Pre h (h.push x) := by
  have hle : Mu.le μ (μ.set h.size m) := Mu.le_set_un (L.un _ (Nat.le_refl _))
  refine ⟨⟨fun b hb => ?_, fun b hb => ?_⟩, hle, Pre.push h x⟩
  · by_cases hbe : b = h.size
    · subst hbe
      rw [Mu.set_same]
      rcases hm with ⟨rfl, rfl⟩ | ⟨c, d, n, k, o, rfl, h1, h2⟩
      · exact .inl ⟨rfl, by simp⟩
      · exact .inr ⟨c, d, n, k, x, o, rfl, by simp, h1, h2.within fun v u r => r.mono hle⟩
    · have hlt : b < h.size := by simp at hb; omega
      rw [Mu.set_ne _ _ hbe]
      rcases L.blk b hlt with ⟨e1, e2⟩ | ⟨c, d, n, k, y, o, e1, h1, h2, h3⟩
      · exact .inl ⟨e1, Pre.push h x _ _ e2⟩
      · exact .inr ⟨c, d, n, k, y, o, e1, Pre.push h x _ _ h1, h2, h3.within fun v u r => r.mono hle⟩
  · simp at hb
    rw [Mu.set_ne _ _ (by omega)]; exact L.un b (by omega)
def Imp (P : Program) (w : World) (μ : Mu) (h : Heap) (Q : Mu → Heap → Prop) : Prop := ∃ μ' h', LayR P w μ' h' ∧ Mu.le μ μ' ∧ Pre h h' ∧ Q μ' h'
variable {H : Type} {enc : TypeId × Value → H} {P : Program} {w : World} {spare : Nat → Bool} {held : Bool}
theorem fields_imp {fuel : Nat} (ih : ∀ t cs x, DataW.trod enc P w 0 spare held fuel t cs = some x → impTy P fuel t = true → ∀ μ h, LayR P w μ h → Imp P w μ h fun μ' h' => ∃ acs d, VRs μ' acs cs ∧ arod P h' fuel t acs = some d)
    {cs : List Value} : ∀ (fs : List Field) (off : Nat) (xs : List (DataW H × List MemPlace)), tiles P fs off cs.length = true → (fs.mapM fun f => DataW.trod enc P w 0 spare held fuel f.type ((cs.drop f.offset).take (P.cellsOf f.type))) = some xs →
      (fs.all fun x => impTy P fuel x.type) = true → off ≤ cs.length → ∀ μ h, LayR P w μ h → Imp P w μ h fun μ' h' => ∃ acs ds, VRs μ' acs (cs.drop off) ∧ arodF (arod P h' fuel) P fs acs = some ds
  | [], off, xs, ht, hm, hi, hle, μ, h, L => by
    simp only [tiles, beq_iff_eq] at ht
    refine ⟨μ, h, L, .refl μ, .refl h, [], [], ?_, rfl⟩
    rw [List.drop_eq_nil_of_le (by omega)]; exact .nil
  | f :: fs, off, xs, ht, hm, hi, hle, μ, h, L => by
    simp only [tiles, Bool.and_eq_true, beq_iff_eq] at ht
    obtain ⟨ho, ht⟩ := ht
    simp only [List.mapM_cons, Option.pure_def, Option.bind_eq_bind, Option.bind_eq_some_iff] at hm
    obtain ⟨y, hy, ys, hys, e⟩ := hm
    simp only [List.all_cons, Bool.and_eq_true] at hi
    rw [ho] at hy
    have hlen : off + P.cellsOf f.type ≤ cs.length := by
      clear ih hy hys
      have key : ∀ (fs : List Field) (o : Nat), tiles P fs o cs.length = true → o ≤ cs.length := by
        intro fs
        induction fs with
        | nil => intro o h; simp only [tiles, beq_iff_eq] at h; omega
        | cons g gs ih => intro o h; simp only [tiles, Bool.and_eq_true] at h; have := ih _ h.2; omega
      exact key fs _ ht
    obtain ⟨μ1, h1, L1, le1, pre1, acs1, d1, r1, a1⟩ := ih _ _ _ hy hi.1 μ h L
    obtain ⟨μ2, h2, L2, le2, pre2, acs2, ds2, r2, a2⟩ := fields_imp ih fs (off + P.cellsOf f.type) ys ht hys hi.2 hlen μ1 h1 L1
    have hl1 : acs1.length = P.cellsOf f.type := by rw [r1.1]; simp; omega
    refine ⟨μ2, h2, L2, le1.trans le2, pre1.trans pre2, acs1 ++ acs2, d1 :: ds2, ?_, ?_⟩
    · have := (r1.mono le2).append r2
      rw [← List.drop_drop] at this
      rw [List.take_append_drop] at this; exact this
    · simp only [arodF]
      rw [← hl1, List.take_left', List.drop_left', arod_mono pre2 _ _ _ _ a1, a2] <;> rfl
theorem mapM_range_succ {α : Type} {f : Nat → Option α} {j n : Nat} {xs : List α} (h : (List.range' j (n + 1)).mapM f = some xs) : ∃ y ys, f j = some y ∧ (List.range' (j + 1) n).mapM f = some ys ∧ xs = y :: ys := by
  rw [List.range'_succ, List.mapM_cons] at h
  simp only [Option.pure_def, Option.bind_eq_bind, Option.bind_eq_some_iff] at h
  obtain ⟨y, hy, ys, hys, e⟩ := h
  cases e; exact ⟨y, ys, hy, hys, rfl⟩
theorem elems_imp {fuel : Nat} (ih : ∀ t cs x, DataW.trod enc P w 0 spare held fuel t cs = some x → impTy P fuel t = true → ∀ μ h, LayR P w μ h → Imp P w μ h fun μ' h' => ∃ acs d, VRs μ' acs cs ∧ arod P h' fuel t acs = some d)
    {e : TypeId} {a : Addr} (hi : impTy P fuel e = true) : ∀ (n j : Nat) (xs : List (DataW H × List MemPlace)), (List.range' j n).mapM (fun i => (w.cells? 0 (a.add (i * P.cellsOf e)) (P.cellsOf e)).bind (DataW.trod enc P w 0 spare held fuel e)) = some xs →
      ∀ μ h, LayR P w μ h → Imp P w μ h fun μ' h' => ∃ acs ds, acs.length = n * P.cellsOf e ∧ (∀ (i : Nat) (v : Value), acs[i]? = some v → ∃ u, w.cell? (a.add (j * P.cellsOf e + i)) = some u ∧ VR μ' v u) ∧ arodL (arod P h' fuel e) (P.cellsOf e) n acs = some ds
  | 0, j, xs, hm, μ, h, L => ⟨μ, h, L, .refl μ, .refl h, [], [], by simp, by simp, rfl⟩
  | n + 1, j, xs, hm, μ, h, L => by
    obtain ⟨y, ys, hy, hys, e'⟩ := mapM_range_succ hm
    obtain ⟨cs, hcs, hy⟩ := Option.bind_eq_some_iff.1 hy
    obtain ⟨μ1, h1, L1, le1, pre1, acs1, d1, r1, a1⟩ := ih _ _ _ hy hi μ h L
    obtain ⟨μ2, h2, L2, le2, pre2, acs2, ds2, hl2, r2, a2⟩ := elems_imp ih hi n (j + 1) ys hys μ1 h1 L1
    have hcl : cs.length = P.cellsOf e ∧ ∀ i, i < P.cellsOf e → w.cell? ((a.add (j * P.cellsOf e)).add i) = cs[i]? := by
      unfold World.cells? at hcs
      rw [if_pos (Nat.zero_le _)] at hcs
      obtain ⟨q1, q2⟩ := mapM_some hcs
      refine ⟨by simpa using q1, fun i hi => ?_⟩
      obtain ⟨u, hu, hc⟩ := q2 i i (by simp [hi])
      rw [hu, hc]
    have hl1 : acs1.length = P.cellsOf e := by rw [r1.1]; exact hcl.1
    refine ⟨μ2, h2, L2, le1.trans le2, pre1.trans pre2, acs1 ++ acs2, d1 :: ds2, by rw [List.length_append, hl1, hl2, Nat.succ_mul]; omega, fun i v hv => ?_, ?_⟩
    · by_cases hlt : i < acs1.length
      · rw [List.getElem?_append_left hlt] at hv
        obtain ⟨u, hu, hr⟩ := r1.get hv
        refine ⟨u, ?_, hr.mono le2⟩
        have := hcl.2 i (by omega)
        rw [hu] at this
        rw [← this, Addr.add_add]
      · rw [List.getElem?_append_right (by omega)] at hv
        obtain ⟨u, hu, hr⟩ := r2 _ v hv
        refine ⟨u, ?_, hr⟩
        rw [← hu]; congr 2
        rw [hl1, Nat.succ_mul]; omega
    · simp only [arodL]
      rw [← hl1, List.take_left', List.drop_left', arod_mono pre2 _ _ _ _ a1, hl1, a2] <;> rfl
theorem imp : ∀ (fuel : Nat) (t : TypeId) (cs : List Value) (x : DataW H × List MemPlace), DataW.trod enc P w 0 (fun _ => true) held fuel t cs = some x → impTy P fuel t = true → ∀ μ h, LayR P w μ h →
    Imp P w μ h fun μ' h' => ∃ acs d, VRs μ' acs cs ∧ arod P h' fuel t acs = some d
  | 0, t, cs, x, e, hi, μ, h, L => by simp [DataW.trod] at e
  | fuel + 1, t, cs, x, e, hi, μ, h, L => by
    have ih := imp fuel
    have same : ∀ {acs : List Value} {d : Dat}, VRs μ acs cs → arod P h (fuel + 1) t acs = some d → Imp P w μ h fun μ' h' => ∃ acs d, VRs μ' acs cs ∧ arod P h' (fuel + 1) t acs = some d :=
      fun hr ha => ⟨μ, h, L, .refl μ, .refl h, _, _, hr, ha⟩
    unfold DataW.trod at e
    unfold impTy at hi
    split at e
    · rename_i b ht
      exact same (.cons (.bool b) .nil) (d := .bool b) (by simp [arod, ht])
    · rename_i k k' n ht
      split at e
      · rename_i hc
        exact same (.cons (.int k' n) .nil) (d := .int k n) (by simp only [arod, ht, if_pos hc])
      · cases e
    · rename_i ht; rw [ht] at hi; cases hi
    · rename_i s ht
      split at e
      · rename_i hc
        exact same (.cons (.string s) .nil) (d := .str s) (by simp only [arod, ht, if_pos hc])
      · cases e
    · rename_i ht; rw [ht] at hi; cases hi
    · rename_i ht; rw [ht] at hi; cases hi
    · rename_i ht
      exact same (.cons .slNil .nil) (d := .nil) (by simp only [arod, ht])
    · rename_i el a len cap ht
      rw [ht] at hi
      simp only [Bool.and_eq_true, decide_eq_true_eq] at hi
      obtain ⟨hk, hi⟩ := hi
      dsimp only at e
      split at e
      · rename_i hc
        obtain ⟨_, hlc, hmax⟩ := hc
        simp only [if_true] at e
        obtain ⟨elems, hel, e⟩ := Option.bind_eq_some_iff.1 e
        obtain ⟨rest, hrest, e⟩ := Option.map_eq_some_iff.1 e
        -- any place up to the capacity
        have hplace : ∀ i, i < cap → ∃ cs', w.cells? 0 (a.add (i * P.cellsOf el)) (P.cellsOf el) = some cs' := by
          intro i hi'
          by_cases hlt : i < len
          · obtain ⟨_, q2⟩ := mapM_some hel
            obtain ⟨y, _, hy⟩ := q2 i i (by simp [hlt])
            obtain ⟨cs', h1, _⟩ := Option.bind_eq_some_iff.1 hy
            exact ⟨cs', h1⟩
          · obtain ⟨_, q2⟩ := mapM_some hrest
            obtain ⟨y, _, hy⟩ := q2 (i - len) (i - len) (by rw [List.getElem?_range (by omega)])
            rw [show len + (i - len) = i by omega] at hy
            obtain ⟨cs', h1, _⟩ := Option.bind_eq_some_iff.1 hy
            exact ⟨cs', h1⟩
        have hcell : ∀ i, i < cap → ∀ j, j < P.cellsOf el → ∃ u, w.cell? (a.add (i * P.cellsOf el + j)) = some u := by
          intro i hi' j hj
          obtain ⟨cs', h1⟩ := hplace i hi'
          unfold World.cells? at h1
          rw [if_pos (Nat.zero_le _)] at h1
          obtain ⟨_, q2⟩ := mapM_some h1
          obtain ⟨u, _, hu⟩ := q2 j j (by simp [hj])
          rw [Addr.add_add] at hu
          exact ⟨u, hu⟩
        by_cases hcap : cap = 0
        · subst hcap
          have hl0 : len = 0 := by omega
          subst hl0
          obtain ⟨L2, hle, hpre⟩ := L.add (m := .dead) (x := .dead) (.inl ⟨rfl, rfl⟩)
          refine ⟨_, _, L2, hle, hpre, [.slice (some ⟨h.size, 0, none⟩) 0 0], .sl [], .cons (.slDead (Mu.set_same _ _ _) (Nat.le_refl _) (Nat.le_refl _)) .nil, ?_⟩
          simp [arod, ht]
        · obtain ⟨μ1, h1, L1, le1, pre1, acs, ds, hal, hr, ha⟩ := elems_imp ih hi len 0 elems (by rw [← List.range_eq_range']; exact hel) μ h L
          obtain ⟨u0, hu0⟩ := hcell 0 (by omega) 0 hk
          obtain ⟨u1, hu1⟩ := hcell (cap - 1) (by omega) (P.cellsOf el - 1) (by omega)
          have hsp : a.spot = none := by
            have ha0 : a.add (0 * P.cellsOf el + 0) = a := by simp [Addr.add]
            rw [ha0] at hu0
            unfold World.cell? at hu0
            split at hu0
            · split at hu0
              · cases hu0
              · rename_i hs; simpa using hs
            · cases hu0
          obtain ⟨ab, ao, asp⟩ := a
          simp only at hsp
          subst hsp
          have hblk : ∃ cc t' fz, w.heap[ab]? = some (.cells cc t' fz) := by
            rw [add_off] at hu0
            unfold World.cell? at hu0
            split at hu0
            · rename_i cc t' fz hh; exact ⟨cc, t', fz, hh⟩
            · cases hu0
          obtain ⟨cc, t', fz, hh⟩ := hblk
          have hget : ∀ i, w.cell? ((⟨ab, ao, none⟩ : Addr).add i) = cc[ao + i]? := by
            intro i; rw [add_off]; unfold World.cell?; simp only [hh]; rfl
          rw [hget] at hu1
          have hlt1 := (Array.getElem?_eq_some_iff.1 hu1).1
          have hmul : (cap - 1) * P.cellsOf el + P.cellsOf el = cap * P.cellsOf el := by
            rw [← Nat.succ_mul]; congr 1; omega
          have hmul2 : len * P.cellsOf el ≤ cap * P.cellsOf el := Nat.mul_le_mul_right _ hlc
          obtain ⟨L2, hle, hpre⟩ := L1.add (m := .at ab ao cc.size (P.cellsOf el)) (x := .cells acs el) (.inr ⟨ab, ao, cc.size, P.cellsOf el, .cells cc t' fz, rfl, hh, by
            refine ⟨rfl, by omega, .inl trivial, rfl, fun i v hv => ?_⟩
            obtain ⟨u, hu, hr'⟩ := hr i v hv
            rw [Nat.zero_mul, Nat.zero_add, hget] at hu
            exact ⟨u, hu, hr'⟩⟩)
          refine ⟨_, _, L2, le1.trans hle, pre1.trans hpre, [.slice (some ⟨h1.size, 0, none⟩) len len], .sl ds, .cons (.sl (Mu.set_same _ _ _) (Nat.le_refl _) hlc (.inr (by omega)) (by omega)) .nil, ?_⟩
          have hpush : (h1.push (.cells acs el))[h1.size]? = some (.cells acs el) := by simp
          simp only [arod, ht, hpush, hal]
          have hm : len ≤ maxLen := Nat.le_trans hlc hmax
          simp only [hm, and_self, if_true, arodL_mono (fun cs d => arod_mono hpre fuel _ cs d) ha, Option.map_some]
      · cases e
    · rename_i cs' fs ht
      rw [ht] at hi
      simp only [Bool.and_eq_true] at hi
      obtain ⟨ht2, hi⟩ := hi
      split at e
      · rename_i hlen
        obtain ⟨xs, hxs, e⟩ := Option.map_eq_some_iff.1 e
        rw [← hlen] at ht2
        obtain ⟨μ1, h1, L1, le1, pre1, acs, ds, hr, ha⟩ := fields_imp ih fs.toList 0 xs ht2 hxs hi (Nat.zero_le _) μ h L
        refine ⟨μ1, h1, L1, le1, pre1, acs, .agg ds, by simpa using hr, ?_⟩
        simp only [arod, ht]
        rw [ha]; rfl
      · cases e
    all_goals first
      | (rename_i ht; rw [ht] at hi; cases hi; done)
      | (rename_i ht _; rw [ht] at hi; cases hi; done)
      | (cases e; done)
      | trace_state
end Go.AM
end
