/- For every style, and every row of spans, the law CodecSets of the given program returns true: what codec.Set writes is what the document says, or nothing, and is read back by codec.ReadSet as it was; the row reads behind the call as it did. No condition beyond the given statement's own. -/
import Derived.Test.YtmjaanhphkbkeaaCodeH
import Derived.Test.YtmjaanhphkbkeaaAmG
import Derived.WalkKit
import Derived.OpenShut
import Derived.ShutString
set_option linter.all false
section
namespace Go.Proofs.Ytmjaanhphkbkeaa
open Go.ChangeShapes Go.WideShapes Go.ChangeAt Go.RowKit Go.AM
set_option linter.unusedVariables false
noncomputable def X0 : Tab := { fn := fun g => cFn Try.prog .plain g, ext := fun _ => none, meth := cMeth Try.prog }
theorem own : ownKnob Try.prog.godebug = none := by kernel_rfl
theorem laidOut : laidOutB Try.prog = true := by kernel_rfl
theorem T0 : TabOK Try.prog X0 := tab_ok (fun _ => .plain) (fun _ => rfl) rfl (by kernel_rfl) (fun g s h => by cases h)
theorem alive_true : (callF X0 100000 ⟨0, []⟩ 4 [] #[]).map (·.1) = some (.bool true) := by kernel_rfl
theorem T1 : TabOK Try.prog X := by
  refine tab_ok flS (fun _ => rfl) rfl (by kernel_rfl) (fun g s h => ?_)
  have h' : (if g = 4 then some sTrue else none) = some s := h
  split at h'
  · rename_i hg
    cases h'
    subst hg
    exact ⟨ext_true T0 alive_true, _, Try.func4, by kernel_rfl, by kernel_rfl⟩
  · cases h'
theorem i64_rng {n : Int} (h : (Lit.int .i64 n).wf = true) : rngI n := by
  simp [Lit.wf, IntKind.min, IntKind.max, IntKind.bits, IntKind.signed] at h
  exact ⟨by omega, by omega⟩
theorem u3 : Try.prog.underlying 3 = some (.int .i64) := by kernel_rfl
theorem u2 : Try.prog.underlying 2 = some (.int .i64) := by kernel_rfl
theorem cells32 : Try.prog.cellsOf 32 = 4 := by kernel_rfl
theorem cells30 : Try.prog.cellsOf 30 = 2 := by kernel_rfl
theorem cells3 : Try.prog.cellsOf 3 = 1 := by kernel_rfl
theorem cells2 : Try.prog.cellsOf 2 = 1 := by kernel_rfl
theorem u22 : Try.prog.underlying 22 = some (.slice 32) := by kernel_rfl
theorem u32 : Try.prog.underlying 32 = some (.struct #[⟨"Low", 30, 0, false, "", "", 0⟩, ⟨"High", 30, 2, false, "", "", 16⟩]) := by kernel_rfl
theorem u30 : Try.prog.underlying 30 = some (.struct #[⟨"Side", 3, 0, false, "", "", 0⟩, ⟨"At", 2, 1, false, "", "", 8⟩]) := by kernel_rfl
theorem arod_cut {h : Heap} {f : Nat} {cs : List Value} {d : Dat} (e : arod Try.prog h f 30 cs = some d) : ∃ a b, cs = [.int .i64 a, .int .i64 b] ∧ rngI b := by
  obtain ⟨f', ds, e1⟩ := arod_struct u30 e
  obtain ⟨d1, ds1, a1, e2⟩ := arodF_cons e1
  obtain ⟨d2, ds2, a2, e3⟩ := arodF_cons e2
  have e4 := arodF_nil e3
  simp only [cells3, cells2] at a1 a2 e4
  obtain ⟨a, ha, _⟩ := arod_int u3 a1
  obtain ⟨b, hb, wb⟩ := arod_int u2 a2
  refine ⟨a, b, ?_, i64_rng wb⟩
  rw [← List.take_append_drop 1 cs, ha, ← List.take_append_drop 1 (cs.drop 1), hb, e4]; rfl
theorem arod_span {h : Heap} {f : Nat} {cs : List Value} {d : Dat} (e : arod Try.prog h f 32 cs = some d) : ∃ s : Sp, cs = spC s ∧ s.rng := by
  obtain ⟨f', ds, e1⟩ := arod_struct u32 e
  obtain ⟨d1, ds1, a1, e2⟩ := arodF_cons e1
  obtain ⟨d2, ds2, a2, e3⟩ := arodF_cons e2
  have e4 := arodF_nil e3
  simp only [cells30] at a1 a2 e4
  obtain ⟨a, b, h1, r1⟩ := arod_cut a1
  obtain ⟨c, d, h2, r2⟩ := arod_cut a2
  refine ⟨⟨a, b, c, d⟩, ?_, r1, r2⟩
  rw [← List.take_append_drop 2 cs, h1, ← List.take_append_drop 2 (cs.drop 2), h2, e4]; rfl
theorem arod_spans {h : Heap} {f : Nat} {v : Value} {d : Dat} (e : arod Try.prog h f 22 [v] = some d) : ∃ xs, SRow h v xs ∧ ∀ s ∈ xs, s.rng := by
  obtain ⟨n, l, f', ds, hr, _, hl⟩ := arod_slice u22 (by rw [cells32]; omega) e
  rw [cells32] at hr hl
  obtain ⟨xs, q1, q2, q3⟩ := arodL_elems (enc := spC) (good := Sp.rng) (fun cs d hd _ => arod_span hd) n l ds hl hr.len
  subst q2
  rw [← q1] at hr
  exact ⟨xs, hr, q3⟩
theorem run : ∀ h avs Ds, ARods Try.prog h Try.f3.params.toList avs Ds → avs.map Go.AM.isAgg = Try.f3.params.toList.map (aggTy Try.prog) → ∃ n h', callF X n ⟨h.size, []⟩ 3 avs h = some (.bool true, h') := by
  intro h avs Ds ha hs
  rw [show Try.f3.params.toList = [3, 22] by rw [Try.params3]] at ha hs
  have hs2 : [3, 22].map (aggTy Try.prog) = [false, false] := by simp [aggTy, u3, u22]
  rw [hs2] at hs
  obtain ⟨v0, v1, rfl⟩ : ∃ v0 v1, avs = [v0, v1] := by
    rcases avs with _ | ⟨v0, _ | ⟨v1, _ | ⟨v2, r⟩⟩⟩
    · simp at hs
    · simp at hs
    · exact ⟨_, _, rfl⟩
    · simp at hs
  obtain ⟨d0, d1, rfl⟩ : ∃ d0 d1, Ds = [d0, d1] := by
    rcases Ds with _ | ⟨d0, _ | ⟨d1, _ | ⟨d2, r⟩⟩⟩
    · exact ha.elim
    · exact ha.2.elim
    · exact ⟨_, _, rfl⟩
    · exact ha.2.2.elim
  obtain ⟨⟨f0, a0⟩, ⟨f1, a1⟩, _⟩ := ha
  simp only [List.map_cons, List.map_nil, List.cons.injEq, and_true] at hs
  rw [one_cells hs.1] at a0
  rw [one_cells hs.2] at a1
  obtain ⟨st, hst, _⟩ := arod_int u3 a0
  cases hst
  obtain ⟨xs, hr, hx⟩ := arod_spans a1
  obtain ⟨v, h', ⟨n, e⟩, q⟩ := law_runs (f := h.size) (st := st) hr hx
  subst q
  exact ⟨n, h', e⟩
set_option maxRecDepth 100000 in
theorem lifted (os : Os) (started : os.Started) (H : Type) (enc : TypeId × Value → H) :
    ReturnsInHanded {} Try.checked os 3 .any (Rows.codecSetsSpec.pre6 enc Try.prog Try.f3 Rows.codecSetsRow.domain false) (Rows.codecSetsSpec.post enc Try.prog Try.f3 false true false false) := by
  refine returnsInHanded_of_change (C := Try.checked) own started (by kernel_rfl) Try.func3
    (ChangeSpec.witness6 (enc := enc) (C := Try.checked) false ⟨#[], #[.int .i64 0, .slice none 0 0], []⟩ 8 (by kernel_rfl) (by kernel_rfl) (by kernel_rfl) (by kernel_rfl)) ?_
  intro W base args ds gs before hval0 hW hcnd _
  have hW' := hW
  obtain ⟨p, q, hA0, hV, rfl, hfz, hnd⟩ := hW
  have hA : DataW.TrodAll enc Try.prog W 0 (fun _ => true) true Try.f3.params.toList args.toList ds p := hA0
  obtain ⟨rfl, rfl⟩ := trodVars_none hV
  simp only [List.append_nil] at hW'
  have hval : ∀ (j : Nat) (t : TypeId) (v : Value), Try.f3.params.toList[j]? = some t → args[j]? = some v → Value.okWide Try.prog W .any base t v := fun j t v h1 h2 => hval0 j t v (by rw [← Array.getElem?_toList]; exact h1) h2
  refine (law_run T1 hA hval (of_decide_eq_true (by kernel_rfl)) run).mono fun e W' ⟨he, bel⟩ => ?_
  subst he
  have hA' := trodAll_below laidOut bel _ _ _ _ (of_decide_eq_true (by kernel_rfl)) hA
  have hds : ∃ d1 d2, ds = [d1, d2] := by
    rw [Try.params3] at hA
    obtain ⟨v0, vs0, d0, ds0, p0, q0, hargs, rfl, rfl, h0, r0⟩ := trodAll_cons hA
    obtain ⟨v1, vs1, d1, ds1, p1, q1, rfl, rfl, rfl, h1, r1⟩ := trodAll_cons r0
    obtain ⟨rfl, rfl, rfl⟩ := trodAll_nil r1
    exact ⟨_, _, rfl⟩
  obtain ⟨d1, d2, rfl⟩ := hds
  exact ⟨_, rfl, _, _, _, [], _, [], hW', trodAll_mk1 (shut_bool Try.underlying4 _), hA', rfl, bel.frame _, fun h => by cases h⟩

theorem over : Rows.codecSetsRow.holds Try.pinned (OpenSpec.ofChange Rows.codecSetsSpec) :=
  OpenClaim.holds_of_wide 3 Try.f3 rfl rfl rfl rfl rfl rfl rfl ⟨rfl, rfl, rfl, rfl, rfl⟩ rfl rfl rfl rfl rfl (by kernel_rfl) Try.func3 (by kernel_rfl)
    (of_decide_eq_true (by kernel_rfl)) (by unfold Func.isWrapper; first | (rw [if_pos (by decide +kernel)]; kernel_rfl) | (rw [if_neg (by decide +kernel)]; exact ⟨rfl, rfl⟩))
    (fun os started H enc _ => lifted os started H enc)
theorem proved : Rows.CodecSetsSaid := over
end Go.Proofs.Ytmjaanhphkbkeaa
#print axioms Go.Proofs.Ytmjaanhphkbkeaa.proved
end
