/- For whatever row of segments, the law TextBack of the given program returns true: a sorted row's text is read as the row, strictly and loosely. No condition beyond the given statement's own. -/
import Derived.Test.YtlgbeekhaoiggaaCodeQ
import Derived.SizedLaws
import Derived.Test.YtlgbeekhaoiggaaAmG
import Derived.Test.YtlgbeekhaoiggaaCodeA
import Derived.WalkKit
import Derived.OpenShut
import Derived.ShutString
set_option linter.all false
section
namespace Go.Proofs.Ytlgbeekhaoiggaa
open Go.ChangeShapes Go.WideShapes Go.ChangeAt Go.RowKit Go.AM
theorem own : ownKnob Try.prog.godebug = none := by kernel_rfl
theorem laidOut : laidOutB Try.prog = true := by kernel_rfl
theorem T1 : TabOK Try.prog X := by
  refine tab_ok flS (fun _ => rfl) rfl (by kernel_rfl) (fun g s h => ?_)
  have h' : (if g = 116 then some (sCopy 95) else if g = 89 then some (sString 95 5) else none) = some s := h
  split at h'
  · rename_i hg
    cases h'
    subst hg
    exact ⟨extCopy, _, Try.func116, by kernel_rfl, by kernel_rfl⟩
  · split at h'
    · rename_i hg
      cases h'
      subst hg
      exact ⟨extString, _, Try.func89, by kernel_rfl, by kernel_rfl⟩
    · cases h'
theorem i64_rng {n : Int} (h : (Lit.int .i64 n).wf = true) : okI n := by
  simp [Lit.wf, IntKind.min, IntKind.max, IntKind.bits, IntKind.signed] at h
  exact ⟨by omega, by omega⟩
theorem u3 : Try.prog.underlying 3 = some (.int .i64) := by kernel_rfl
theorem u2 : Try.prog.underlying 2 = some (.int .i64) := by kernel_rfl
theorem cellsSp : Try.prog.cellsOf 46 = 4 := by kernel_rfl
theorem cellsCu : Try.prog.cellsOf 44 = 2 := by kernel_rfl
theorem cellsSg : Try.prog.cellsOf 57 = 5 := by kernel_rfl
theorem cells3 : Try.prog.cellsOf 3 = 1 := by kernel_rfl
theorem cells2 : Try.prog.cellsOf 2 = 1 := by kernel_rfl
theorem uGs : Try.prog.underlying 27 = some (.slice 57) := by kernel_rfl
theorem uSg : Try.prog.underlying 57 = some (.struct #[⟨"Span", 46, 0, false, "", "", 0⟩, ⟨"V", 2, 4, false, "", "", 32⟩]) := by kernel_rfl
theorem uSp : Try.prog.underlying 46 = some (.struct #[⟨"Low", 44, 0, false, "", "", 0⟩, ⟨"High", 44, 2, false, "", "", 16⟩]) := by kernel_rfl
theorem uCu : Try.prog.underlying 44 = some (.struct #[⟨"Side", 3, 0, false, "", "", 0⟩, ⟨"At", 2, 1, false, "", "", 8⟩]) := by kernel_rfl
theorem arod_cut {h : Heap} {f : Nat} {cs : List Value} {d : Dat} (e : arod Try.prog h f 44 cs = some d) : ∃ a b, cs = [.int .i64 a, .int .i64 b] ∧ okI a ∧ okI b := by
  obtain ⟨f', ds, e1⟩ := arod_struct uCu e
  obtain ⟨d1, ds1, a1, e2⟩ := arodF_cons e1
  obtain ⟨d2, ds2, a2, e3⟩ := arodF_cons e2
  have e4 := arodF_nil e3
  simp only [cells3, cells2] at a1 a2 e4
  obtain ⟨a, ha, wa⟩ := arod_int u3 a1
  obtain ⟨b, hb, wb⟩ := arod_int u2 a2
  refine ⟨a, b, ?_, i64_rng wa, i64_rng wb⟩
  rw [← List.take_append_drop 1 cs, ha, ← List.take_append_drop 1 (cs.drop 1), hb, e4]; rfl
theorem arod_span {h : Heap} {f : Nat} {cs : List Value} {d : Dat} (e : arod Try.prog h f 46 cs = some d) : ∃ s : Sp, cs = spC s ∧ okS s := by
  obtain ⟨f', ds, e1⟩ := arod_struct uSp e
  obtain ⟨d1, ds1, a1, e2⟩ := arodF_cons e1
  obtain ⟨d2, ds2, a2, e3⟩ := arodF_cons e2
  have e4 := arodF_nil e3
  simp only [cellsCu] at a1 a2 e4
  obtain ⟨a, b, h1, r1⟩ := arod_cut a1
  obtain ⟨c, d, h2, r2⟩ := arod_cut a2
  refine ⟨⟨a, b, c, d⟩, ?_, r1.1, r1.2, r2.1, r2.2⟩
  rw [← List.take_append_drop 2 cs, h1, ← List.take_append_drop 2 (cs.drop 2), h2, e4]; rfl
theorem arod_seg {h : Heap} {f : Nat} {cs : List Value} {d : Dat} (e : arod Try.prog h f 57 cs = some d) : ∃ s : Sg, cs = sgC s ∧ okG s := by
  obtain ⟨f', ds, e1⟩ := arod_struct uSg e
  obtain ⟨d1, ds1, a1, e2⟩ := arodF_cons e1
  obtain ⟨d2, ds2, a2, e3⟩ := arodF_cons e2
  have e4 := arodF_nil e3
  simp only [cellsSp, cells2] at a1 a2 e4
  obtain ⟨s, h1, r1⟩ := arod_span a1
  obtain ⟨v, h2, r2⟩ := arod_int u2 a2
  refine ⟨⟨s, v⟩, ?_, r1, i64_rng r2⟩
  rw [← List.take_append_drop 4 cs, h1, ← List.take_append_drop 1 (cs.drop 4), h2, e4]; rfl
theorem arod_segs {h : Heap} {f : Nat} {v : Value} {d : Dat} (e : arod Try.prog h f 27 [v] = some d) : ∃ xs, GRow h v xs ∧ ∀ s ∈ xs, okG s := by
  obtain ⟨n, l, f', ds, hr, _, hl⟩ := arod_slice uGs (by rw [cellsSg]; omega) e
  rw [cellsSg] at hr hl
  obtain ⟨xs, q1, q2, q3⟩ := arodL_elems (enc := sgC) (good := okG) (fun cs d hd _ => arod_seg hd) n l ds hl hr.len
  subst q2
  rw [← q1] at hr
  exact ⟨xs, hr, q3⟩
def short (avs : List Value) : Prop := ∀ a n c, avs = [.slice a n c] → n ≤ 3518437208832
theorem bytesSg : Try.prog.bytesOf 57 = 40 := by kernel_rfl
theorem mapM_len {α β : Type} {g : α → Option β} : ∀ {l : List α} {r : List β}, l.mapM g = some r → r.length = l.length
  | [], r, h => by simp at h; subst h; rfl
  | x :: l, r, h => by
    rw [List.mapM_cons] at h
    simp only [Option.pure_def, Option.bind_eq_bind] at h
    obtain ⟨y, _, h⟩ := Option.bind_eq_some_iff.1 h
    obtain ⟨ys, h2, h⟩ := Option.bind_eq_some_iff.1 h
    cases h
    simp [mapM_len h2]
theorem trod_len {H : Type} {enc : TypeId × Value → H} {P : Program} {W : World} {sp : Nat → Bool} {held : Bool} {m : Nat} {t e : TypeId} {a : Option Addr} {len cap : Nat} {d : DataW H} {p : List MemPlace} (ht : P.underlying t = some (.slice e))
    (h : DataW.trod enc P W 0 sp held m t [.slice a len cap] = some (d, p)) : len = 0 ∨ ∃ elems spare, d = .slice elems spare ∧ elems.length = len := by
  cases m with
  | zero => cases h
  | succ m =>
    unfold DataW.trod at h
    rw [ht] at h
    cases a with
    | none =>
      by_cases h0 : len = 0
      · exact .inl h0
      · exfalso
        rcases len with _ | len
        · exact h0 rfl
        · cases h
    | some a =>
      right
      dsimp only at h
      split at h
      · obtain ⟨elems, hel, h⟩ := Option.bind_eq_some_iff.1 h
        obtain ⟨rest, _, h⟩ := Option.map_eq_some_iff.1 h
        injection h with h1 _
        refine ⟨_, _, h1.symm, ?_⟩
        have := mapM_len hel
        simpa using this
      · cases h
theorem run : ∀ h avs Ds, ARods Try.prog h Try.f6.params.toList avs Ds → avs.map Go.AM.isAgg = Try.f6.params.toList.map (aggTy Try.prog) → short avs → ∃ n h', callF X n ⟨h.size, []⟩ 6 avs h = some (.bool true, h') := by
  intro h avs Ds ha hs hsh
  rw [show Try.f6.params.toList = [27] by rw [Try.params6]] at ha hs
  have hs2 : [27].map (aggTy Try.prog) = [false] := by simp [aggTy, uGs]
  rw [hs2] at hs
  obtain ⟨v0, rfl⟩ : ∃ v0, avs = [v0] := by
    rcases avs with _ | ⟨v0, _ | ⟨v1, r⟩⟩
    · simp at hs
    · exact ⟨_, rfl⟩
    · simp at hs
  obtain ⟨d0, rfl⟩ : ∃ d0, Ds = [d0] := by
    rcases Ds with _ | ⟨d0, _ | ⟨d1, r⟩⟩
    · exact ha.elim
    · exact ⟨_, rfl⟩
    · exact ha.2.elim
  obtain ⟨⟨f0, a0⟩, _⟩ := ha
  simp only [List.map_cons, List.map_nil, List.cons.injEq, and_true] at hs
  rw [one_cells hs] at a0
  obtain ⟨xs, hr, hx⟩ := arod_segs a0
  obtain ⟨a, c, rfl⟩ := hr.form
  obtain ⟨n, e⟩ := textBack_runs (f := h.size) hr hx (hsh a xs.length c rfl)
  exact ⟨n, h, e⟩
set_option maxRecDepth 100000 in
theorem lifted (os : Os) (started : os.Started) (H : Type) (enc : TypeId × Value → H) :
    ReturnsInHanded {} Try.checked os 6 .any (Rows.textBackSpec.pre6 enc Try.prog Try.f6 Rows.textBackRow.domain false) (Rows.textBackSpec.post enc Try.prog Try.f6 false true false false) := by
  refine returnsInHanded_of_change_sized (C := Try.checked) own started (by kernel_rfl) Try.func6
    (ChangeSpec.witness6 (enc := enc) (C := Try.checked) false ⟨#[], #[.slice none 0 0], []⟩ 8 (by kernel_rfl) (by kernel_rfl) (by kernel_rfl) (by kernel_rfl)) ?_
  intro W base args ds gs before hval0 hW hcnd hwt _
  have hW' := hW
  obtain ⟨p, q, hA0, hV, rfl, hfz, hnd⟩ := hW
  have hA : DataW.TrodAll enc Try.prog W 0 (fun _ => true) true Try.f6.params.toList args.toList ds p := hA0
  obtain ⟨rfl, rfl⟩ := trodVars_none hV
  simp only [List.append_nil] at hW'
  have hval : ∀ (j : Nat) (t : TypeId) (v : Value), Try.f6.params.toList[j]? = some t → args[j]? = some v → Value.okWide Try.prog W .any base t v := fun j t v h1 h2 => hval0 j t v (by rw [← Array.getElem?_toList]; exact h1) h2
  have hK : ∀ μ avs, VRs μ avs args.toList → short avs := by
    intro μ avs hr a n c hav
    subst hav
    obtain ⟨y, m', hy, hvr, hrest⟩ := VRs.cons_inv hr
    have hm' := VRs.nil_inv hrest
    subst hm'
    have hA2 := hA
    rw [Try.params6] at hA2
    obtain ⟨v0, vs0, d0, ds0, p0, q0, hargs, hds0, rfl, ⟨m, h0⟩, r0⟩ := trodAll_cons hA2
    rw [hy] at hargs
    injection hargs with e1 _
    subst e1
    have hlen : ∃ a' c', y = .slice a' n c' := by cases hvr <;> exact ⟨_, _, rfl⟩
    obtain ⟨a', c', rfl⟩ := hlen
    rcases trod_len uGs h0 with q | ⟨elems, spare, q1, q2⟩
    · omega
    · have hb : (elems.length + spare.length) * Try.prog.bytesOf 57 ≤ reachBytes := sized_slice (j := 0) (t := 27) (elems := elems) (spare := spare) hwt (by rw [Try.params6]; rfl) (by rw [hds0, q1]; rfl) uGs
      rw [bytesSg] at hb
      have : reachBytes ≤ 140737488353280 := by decide
      omega
  refine (law_run2 T1 hA hval (of_decide_eq_true (by kernel_rfl)) hK run).mono fun e W' ⟨he, bel⟩ => ?_
  subst he
  have hA' := trodAll_below laidOut bel _ _ _ _ (of_decide_eq_true (by kernel_rfl)) hA
  have hds : ∃ d1, ds = [d1] := by
    rw [Try.params6] at hA
    obtain ⟨v0, vs0, d0, ds0, p0, q0, hargs, rfl, rfl, h0, r0⟩ := trodAll_cons hA
    obtain ⟨rfl, rfl, rfl⟩ := trodAll_nil r0
    exact ⟨_, rfl⟩
  obtain ⟨d1, rfl⟩ := hds
  exact ⟨_, rfl, _, _, _, [], _, [], hW', trodAll_mk1 (shut_bool Try.underlying4 _), hA', rfl, bel.frame _, fun h => by cases h⟩
theorem over : Rows.textBackRow.holds Try.pinned (OpenSpec.ofChange Rows.textBackSpec) :=
  OpenClaim.holds_of_wide 6 Try.f6 rfl rfl rfl rfl rfl rfl rfl ⟨rfl, rfl, rfl, rfl, rfl⟩ rfl rfl rfl rfl rfl (by kernel_rfl) Try.func6 (by kernel_rfl)
    (of_decide_eq_true (by kernel_rfl)) (by unfold Func.isWrapper; first | (rw [if_pos (by decide +kernel)]; kernel_rfl) | (rw [if_neg (by decide +kernel)]; exact ⟨rfl, rfl⟩))
    (fun os started H enc _ => lifted os started H enc)
theorem proved : Rows.TextBackSaid := over
end Go.Proofs.Ytlgbeekhaoiggaa
#print axioms Go.Proofs.Ytlgbeekhaoiggaa.proved
end
