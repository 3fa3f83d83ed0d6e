/- For whatever two rows of spans, the law AlgebraPieces of the given program returns true: Refine and Cuts of package algebra answer as the reference does, and no piece has a cut inside. No condition beyond the given statement's own. -/
import Derived.Test.YtlgbeekhaoiggaaCodeJ
set_option linter.all false
section
namespace Go.Proofs.Ytlgbeekhaoiggaa
open Go.ChangeShapes Go.WideShapes Go.ChangeAt Go.RowKit Go.AM
def short (avs : List Value) : Prop := ∀ (j : Nat) (t e : TypeId) (a : Option Addr) (n c : Nat), (Try.f8.params.toList)[j]? = some t → Try.prog.underlying t = some (.slice e) → avs[j]? = some (.slice a n c) → n ≤ 1000000000000000
theorem run : ∀ h avs Ds, ARods Try.prog h Try.f8.params.toList avs Ds → avs.map Go.AM.isAgg = Try.f8.params.toList.map (aggTy Try.prog) → short avs → ∃ n h', callF Xq n ⟨h.size, []⟩ 8 avs h = some (.bool true, h') := by
  intro h avs Ds ha hs hsh
  unfold short at hsh
  rw [show Try.f8.params.toList = [23, 23] by rw [Try.params8]] at ha hs hsh
  have hs2 : [23, 23].map (aggTy Try.prog) = [false, false] := by simp [aggTy, uPs, uSp, u2]
  rw [hs2] at hs
  obtain ⟨v0, v1, rfl⟩ : ∃ v0 v1, avs = [v0, v1] := by
    rcases avs with _ | ⟨v0, _ | ⟨v1, _ | ⟨vx, rest⟩⟩⟩
    · simp at hs
    · simp at hs
    · exact ⟨_, _, rfl⟩
    · simp at hs
  obtain ⟨d0, d1, rfl⟩ : ∃ d0 d1, Ds = [d0, d1] := by
    rcases Ds with _ | ⟨d0, _ | ⟨d1, _ | ⟨dx, rest⟩⟩⟩
    · exact ha.elim
    · exact ha.2.elim
    · exact ⟨_, _, rfl⟩
    · exact ha.2.2.elim
  obtain ⟨⟨f0, a0⟩, ⟨f1, a1⟩, _⟩ := ha
  simp only [List.map_cons, List.map_nil, List.cons.injEq, and_true] at hs
  obtain ⟨s0, s1⟩ := hs
  rw [one_cells s0] at a0
  obtain ⟨x0, r0, ok0⟩ := arod_spans a0
  have m0 : x0.length ≤ 1000000000000000 := by
    obtain ⟨a, c, e⟩ := r0.form
    exact hsh 0 _ _ a x0.length c rfl uPs (by rw [e]; rfl)
  rw [one_cells s1] at a1
  obtain ⟨x1, r1, ok1⟩ := arod_spans a1
  have m1 : x1.length ≤ 1000000000000000 := by
    obtain ⟨a, c, e⟩ := r1.form
    exact hsh 1 _ _ a x1.length c rfl uPs (by rw [e]; rfl)
  obtain ⟨n, e⟩ := pieces_runs (f := h.size) m0 m1 r0 r1 ok0 ok1
  exact ⟨n, h, e⟩
set_option maxRecDepth 100000 in
theorem lifted (os : Os) (started : os.Started) (H : Type) (enc : TypeId × Value → H) :
    ReturnsInHanded {} Try.checked os 8 .any (Rows.algebraPiecesSpec.pre6 enc Try.prog Try.f8 Rows.algebraPiecesRow.domain false) (Rows.algebraPiecesSpec.post enc Try.prog Try.f8 false true false false) := by
  refine returnsInHanded_of_change_sized (C := Try.checked) own started (by kernel_rfl) Try.func8
    (ChangeSpec.witness6 (enc := enc) (C := Try.checked) false ⟨#[], #[.slice none 0 0, .slice none 0 0], []⟩ 8 (by kernel_rfl) (by kernel_rfl) (by kernel_rfl) (by kernel_rfl)) ?_
  intro W base args ds gs before hval0 hW hcnd hwt _
  have hW' := hW
  obtain ⟨p, q, hA0, hV, rfl, hfz, hnd⟩ := hW
  have hA : DataW.TrodAll enc Try.prog W 0 (fun _ => true) true Try.f8.params.toList args.toList ds p := hA0
  obtain ⟨rfl, rfl⟩ := trodVars_none hV
  simp only [List.append_nil] at hW'
  have hval : ∀ (j : Nat) (t : TypeId) (v : Value), Try.f8.params.toList[j]? = some t → args[j]? = some v → Value.okWide Try.prog W .any base t v := fun j t v h1 h2 => hval0 j t v (by rw [← Array.getElem?_toList]; exact h1) h2
  have hK : ∀ μ avs, VRs μ avs args.toList → short avs := by
    intro μ avs hr
    refine lens_of hA hr fun j t e el sp' h1 h2 h3 => ?_
    have hlt : j < Try.f8.params.toList.length := (List.getElem?_eq_some_iff.1 h1).1
    have hb : (el.length + sp'.length) * Try.prog.bytesOf e ≤ reachBytes := sized_slice (j := j) (t := t) (elems := el) (spare := sp') hwt (by rw [List.getElem?_append_left hlt]; exact h1) (by simpa using h3) h2
    have he : e = 46 := by
      rw [show Try.f8.params.toList = [23, 23] by rw [Try.params8]] at h1
      rcases j with _ | _ | j
      · cases h1; rw [uPs] at h2; cases h2; rfl
      · cases h1; rw [uPs] at h2; cases h2; rfl
      · simp at h1
    subst he
    rw [bytesSp] at hb
    have : reachBytes ≤ 140737488353280 := by decide
    omega
  refine (law_run2 tabQ hA hval (of_decide_eq_true (by kernel_rfl)) hK run).mono fun e W' ⟨he, bel⟩ => ?_
  subst he
  have hA' := trodAll_below laidOut bel _ _ _ _ (of_decide_eq_true (by kernel_rfl)) hA
  have hds : ∃ d0 d1, ds = [d0, d1] := by
    rw [Try.params8] at hA
    obtain ⟨v0, vs0, d0, ds0, p0, q0, hargs0, rfl, rfl, h0, r0⟩ := trodAll_cons hA
    obtain ⟨v1, vs1, d1, ds1, p1, q1, hargs1, rfl, hq1, h1, r1⟩ := trodAll_cons r0
    obtain ⟨_, rfl, _⟩ := trodAll_nil r1
    exact ⟨_, _, rfl⟩
  obtain ⟨d0, d1, rfl⟩ := hds
  exact ⟨_, rfl, _, _, _, [], _, [], hW', trodAll_mk1 (shut_bool Try.underlying4 _), hA', rfl, bel.frame _, fun h => by cases h⟩
theorem over : Rows.algebraPiecesRow.holds Try.pinned (OpenSpec.ofChange Rows.algebraPiecesSpec) :=
  OpenClaim.holds_of_wide 8 Try.f8 rfl rfl rfl rfl rfl rfl rfl ⟨rfl, rfl, rfl, rfl, rfl⟩ rfl rfl rfl rfl rfl (by kernel_rfl) Try.func8 (by kernel_rfl)
    (of_decide_eq_true (by kernel_rfl)) (by unfold Func.isWrapper; first | (rw [if_pos (by decide +kernel)]; kernel_rfl) | (rw [if_neg (by decide +kernel)]; exact ⟨rfl, rfl⟩))
    (fun os started H enc _ => lifted os started H enc)
theorem proved : Rows.AlgebraPiecesSaid := over
end Go.Proofs.Ytlgbeekhaoiggaa
#print axioms Go.Proofs.Ytlgbeekhaoiggaa.proved
end
