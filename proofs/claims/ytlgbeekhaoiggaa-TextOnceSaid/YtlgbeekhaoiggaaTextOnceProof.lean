/- For whatever text, the law TextOnce of the given program returns true: what is read strictly, as spans or as segments, written, is the text. No condition beyond the given statement's own. -/
import Derived.Test.YtlgbeekhaoiggaaCodeP
import Derived.Test.YtlgbeekhaoiggaaAmG
import Derived.Test.YtlgbeekhaoiggaaCodeA
import Derived.WalkKit
import Derived.OpenShut
import Derived.ShutString
set_option linter.all false
section
namespace Go.Proofs.Ytlgbeekhaoiggaa
open Go.ChangeShapes Go.WideShapes Go.ChangeAt Go.RowKit Go.AM
theorem own : ownKnob Try.prog.godebug = none := by kernel_rfl
theorem laidOut : laidOutB Try.prog = true := by kernel_rfl
theorem T1 : TabOK Try.prog X := by
  refine tab_ok flS (fun _ => rfl) rfl (by kernel_rfl) (fun g s h => ?_)
  have h' : (if g = 116 then some (sCopy 95) else if g = 89 then some (sString 95 5) else none) = some s := h
  split at h'
  · rename_i hg
    cases h'
    subst hg
    exact ⟨extCopy, _, Try.func116, by kernel_rfl, by kernel_rfl⟩
  · split at h'
    · rename_i hg
      cases h'
      subst hg
      exact ⟨extString, _, Try.func89, by kernel_rfl, by kernel_rfl⟩
    · cases h'
theorem uStr : Try.prog.underlying 9 = some .string := by kernel_rfl
theorem run : ∀ h avs Ds, ARods Try.prog h Try.f5.params.toList avs Ds → avs.map Go.AM.isAgg = Try.f5.params.toList.map (aggTy Try.prog) → ∃ n h', callF X n ⟨h.size, []⟩ 5 avs h = some (.bool true, h') := by
  intro h avs Ds ha hs
  rw [show Try.f5.params.toList = [9] by rw [Try.params5]] at ha hs
  have hs2 : [9].map (aggTy Try.prog) = [false] := by simp [aggTy, uStr]
  rw [hs2] at hs
  obtain ⟨v0, rfl⟩ : ∃ v0, avs = [v0] := by
    rcases avs with _ | ⟨v0, _ | ⟨v1, r⟩⟩
    · simp at hs
    · exact ⟨_, rfl⟩
    · simp at hs
  obtain ⟨d0, rfl⟩ : ∃ d0, Ds = [d0] := by
    rcases Ds with _ | ⟨d0, _ | ⟨d1, r⟩⟩
    · exact ha.elim
    · exact ⟨_, rfl⟩
    · exact ha.2.elim
  obtain ⟨⟨f0, a0⟩, _⟩ := ha
  simp only [List.map_cons, List.map_nil, List.cons.injEq, and_true] at hs
  rw [one_cells hs] at a0
  obtain ⟨s, hs, _⟩ := arod_string uStr a0
  cases hs
  have hl : s = ⟨s.data.toList.toArray⟩ := by cases s; simp
  obtain ⟨n, e⟩ := textOnce_runs (f := h.size) (h := h) (l := s.data.toList)
  rw [show sv s.data.toList = .string s from congrArg Value.string hl.symm] at e
  exact ⟨n, h, e⟩
set_option maxRecDepth 100000 in
theorem lifted (os : Os) (started : os.Started) (H : Type) (enc : TypeId × Value → H) :
    ReturnsInHanded {} Try.checked os 5 .any (Rows.textOnceSpec.pre6 enc Try.prog Try.f5 Rows.textOnceRow.domain false) (Rows.textOnceSpec.post enc Try.prog Try.f5 false true false false) := by
  refine returnsInHanded_of_change (C := Try.checked) own started (by kernel_rfl) Try.func5
    (ChangeSpec.witness6 (enc := enc) (C := Try.checked) false ⟨#[], #[.string .empty], []⟩ 8 (by kernel_rfl) (by kernel_rfl) (by kernel_rfl) (by kernel_rfl)) ?_
  intro W base args ds gs before hval0 hW hcnd _
  have hW' := hW
  obtain ⟨p, q, hA0, hV, rfl, hfz, hnd⟩ := hW
  have hA : DataW.TrodAll enc Try.prog W 0 (fun _ => true) true Try.f5.params.toList args.toList ds p := hA0
  obtain ⟨rfl, rfl⟩ := trodVars_none hV
  simp only [List.append_nil] at hW'
  have hval : ∀ (j : Nat) (t : TypeId) (v : Value), Try.f5.params.toList[j]? = some t → args[j]? = some v → Value.okWide Try.prog W .any base t v := fun j t v h1 h2 => hval0 j t v (by rw [← Array.getElem?_toList]; exact h1) h2
  refine (law_run T1 hA hval (of_decide_eq_true (by kernel_rfl)) run).mono fun e W' ⟨he, bel⟩ => ?_
  subst he
  have hA' := trodAll_below laidOut bel _ _ _ _ (of_decide_eq_true (by kernel_rfl)) hA
  have hds : ∃ d1, ds = [d1] := by
    rw [Try.params5] at hA
    obtain ⟨v0, vs0, d0, ds0, p0, q0, hargs, rfl, rfl, h0, r0⟩ := trodAll_cons hA
    obtain ⟨rfl, rfl, rfl⟩ := trodAll_nil r0
    exact ⟨_, rfl⟩
  obtain ⟨d1, rfl⟩ := hds
  exact ⟨_, rfl, _, _, _, [], _, [], hW', trodAll_mk1 (shut_bool Try.underlying4 _), hA', rfl, bel.frame _, fun h => by cases h⟩
theorem over : Rows.textOnceRow.holds Try.pinned (OpenSpec.ofChange Rows.textOnceSpec) :=
  OpenClaim.holds_of_wide 5 Try.f5 rfl rfl rfl rfl rfl rfl rfl ⟨rfl, rfl, rfl, rfl, rfl⟩ rfl rfl rfl rfl rfl (by kernel_rfl) Try.func5 (by kernel_rfl)
    (of_decide_eq_true (by kernel_rfl)) (by unfold Func.isWrapper; first | (rw [if_pos (by decide +kernel)]; kernel_rfl) | (rw [if_neg (by decide +kernel)]; exact ⟨rfl, rfl⟩))
    (fun os started H enc _ => lifted os started H enc)
theorem proved : Rows.TextOnceSaid := over
end Go.Proofs.Ytlgbeekhaoiggaa
#print axioms Go.Proofs.Ytlgbeekhaoiggaa.proved
end
