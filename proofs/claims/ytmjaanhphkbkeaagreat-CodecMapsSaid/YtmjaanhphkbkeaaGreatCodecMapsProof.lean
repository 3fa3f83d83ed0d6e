/- For every rule, and every row of segments, the law CodecMaps of the given program returns true: what codec.Map writes is what the document says, or nothing, and is read back by codec.ReadMap as it was; rule and row read behind the call as they did. No condition beyond the given statement's own. -/
import Derived.Test.YtmjaanhphkbkeaaGreatCodeM
import Derived.Test.YtmjaanhphkbkeaaGreatAmG
import Derived.WalkKit
import Derived.OpenShut
import Derived.ShutString
set_option linter.all false
section
namespace Go.Proofs.YtmjaanhphkbkeaaGreat
open Go.ChangeShapes Go.WideShapes Go.ChangeAt Go.RowKit Go.AM
set_option linter.unusedVariables false
noncomputable def X0 : Tab := { fn := fun g => cFn Tryz.prog .plain g, ext := fun _ => none, meth := cMeth Tryz.prog }
theorem own : ownKnob Tryz.prog.godebug = none := by kernel_rfl
theorem laidOut : laidOutB Tryz.prog = true := by kernel_rfl
theorem T0 : TabOK Tryz.prog X0 := tab_ok (fun _ => .plain) (fun _ => rfl) rfl (by kernel_rfl) (fun g s h => by cases h)
theorem alive_true : (callF X0 100000 ⟨0, []⟩ 5 [] #[]).map (·.1) = some (.bool true) := by kernel_rfl
theorem T1 : TabOK Tryz.prog X := by
  refine tab_ok flS (fun _ => rfl) rfl (by kernel_rfl) (fun g s h => ?_)
  have h' : (if g = 5 then some sTrue else none) = some s := h
  split at h'
  · rename_i hg
    cases h'
    subst hg
    exact ⟨ext_true T0 alive_true, _, Tryz.func5, by kernel_rfl, by kernel_rfl⟩
  · cases h'
theorem i64_rng {n : Int} (h : (Lit.int .i64 n).wf = true) : rngI n := by
  simp [Lit.wf, IntKind.min, IntKind.max, IntKind.bits, IntKind.signed] at h
  exact ⟨by omega, by omega⟩
theorem u3 : Tryz.prog.underlying 3 = some (.int .i64) := by kernel_rfl
theorem u2 : Tryz.prog.underlying 2 = some (.int .i64) := by kernel_rfl
theorem ub : Tryz.prog.underlying 4 = some .bool := by kernel_rfl
theorem cellsSp : Tryz.prog.cellsOf 50 = 4 := by kernel_rfl
theorem cellsCu : Tryz.prog.cellsOf 48 = 2 := by kernel_rfl
theorem cellsSg : Tryz.prog.cellsOf 58 = 5 := by kernel_rfl
theorem cells3 : Tryz.prog.cellsOf 3 = 1 := by kernel_rfl
theorem cells2 : Tryz.prog.cellsOf 2 = 1 := by kernel_rfl
theorem cellsb : Tryz.prog.cellsOf 4 = 1 := by kernel_rfl
theorem uGs : Tryz.prog.underlying 24 = some (.slice 58) := by kernel_rfl
theorem uSg : Tryz.prog.underlying 58 = some (.struct #[⟨"Span", 50, 0, false, "", "", 0⟩, ⟨"V", 2, 4, false, "", "", 32⟩]) := by kernel_rfl
theorem uSp : Tryz.prog.underlying 50 = some (.struct #[⟨"Low", 48, 0, false, "", "", 0⟩, ⟨"High", 48, 2, false, "", "", 16⟩]) := by kernel_rfl
theorem uCu : Tryz.prog.underlying 48 = some (.struct #[⟨"Side", 3, 0, false, "", "", 0⟩, ⟨"At", 2, 1, false, "", "", 8⟩]) := by kernel_rfl
theorem uRu : Tryz.prog.underlying 23 = some (.struct #[⟨"Style", 3, 0, false, "", "", 0⟩, ⟨"Absorb", 4, 1, false, "", "", 8⟩, ⟨"Zero", 2, 2, false, "", "", 16⟩]) := by kernel_rfl
theorem arod_cut {h : Heap} {f : Nat} {cs : List Value} {d : Dat} (e : arod Tryz.prog h f 48 cs = some d) : ∃ a b, cs = [.int .i64 a, .int .i64 b] ∧ rngI b := by
  obtain ⟨f', ds, e1⟩ := arod_struct uCu e
  obtain ⟨d1, ds1, a1, e2⟩ := arodF_cons e1
  obtain ⟨d2, ds2, a2, e3⟩ := arodF_cons e2
  have e4 := arodF_nil e3
  simp only [cells3, cells2] at a1 a2 e4
  obtain ⟨a, ha, _⟩ := arod_int u3 a1
  obtain ⟨b, hb, wb⟩ := arod_int u2 a2
  refine ⟨a, b, ?_, i64_rng wb⟩
  rw [← List.take_append_drop 1 cs, ha, ← List.take_append_drop 1 (cs.drop 1), hb, e4]; rfl
theorem arod_span {h : Heap} {f : Nat} {cs : List Value} {d : Dat} (e : arod Tryz.prog h f 50 cs = some d) : ∃ s : Sp, cs = spC s ∧ s.rng := by
  obtain ⟨f', ds, e1⟩ := arod_struct uSp e
  obtain ⟨d1, ds1, a1, e2⟩ := arodF_cons e1
  obtain ⟨d2, ds2, a2, e3⟩ := arodF_cons e2
  have e4 := arodF_nil e3
  simp only [cellsCu] at a1 a2 e4
  obtain ⟨a, b, h1, r1⟩ := arod_cut a1
  obtain ⟨c, d, h2, r2⟩ := arod_cut a2
  refine ⟨⟨a, b, c, d⟩, ?_, r1, r2⟩
  rw [← List.take_append_drop 2 cs, h1, ← List.take_append_drop 2 (cs.drop 2), h2, e4]; rfl
theorem arod_seg {h : Heap} {f : Nat} {cs : List Value} {d : Dat} (e : arod Tryz.prog h f 58 cs = some d) : ∃ s : Sg, cs = sgC s ∧ s.rng := by
  obtain ⟨f', ds, e1⟩ := arod_struct uSg e
  obtain ⟨d1, ds1, a1, e2⟩ := arodF_cons e1
  obtain ⟨d2, ds2, a2, e3⟩ := arodF_cons e2
  have e4 := arodF_nil e3
  simp only [cellsSp, cells2] at a1 a2 e4
  obtain ⟨s, h1, r1⟩ := arod_span a1
  obtain ⟨v, h2, r2⟩ := arod_int u2 a2
  refine ⟨⟨s, v⟩, ?_, r1, i64_rng r2⟩
  rw [← List.take_append_drop 4 cs, h1, ← List.take_append_drop 1 (cs.drop 4), h2, e4]; rfl
theorem arod_segs {h : Heap} {f : Nat} {v : Value} {d : Dat} (e : arod Tryz.prog h f 24 [v] = some d) : ∃ xs, GRow h v xs ∧ ∀ s ∈ xs, s.rng := by
  obtain ⟨n, l, f', ds, hr, _, hl⟩ := arod_slice uGs (by rw [cellsSg]; omega) e
  rw [cellsSg] at hr hl
  obtain ⟨xs, q1, q2, q3⟩ := arodL_elems (enc := sgC) (good := Sg.rng) (fun cs d hd _ => arod_seg hd) n l ds hl hr.len
  subst q2
  rw [← q1] at hr
  exact ⟨xs, hr, q3⟩
theorem arod_rule {h : Heap} {f : Nat} {cs : List Value} {d : Dat} (e : arod Tryz.prog h f 23 cs = some d) : ∃ st ab z, cs = [.int .i64 st, .bool ab, .int .i64 z] ∧ rngI z := by
  obtain ⟨f', ds, e1⟩ := arod_struct uRu e
  obtain ⟨d1, ds1, a1, e2⟩ := arodF_cons e1
  obtain ⟨d2, ds2, a2, e3⟩ := arodF_cons e2
  obtain ⟨d3, ds3, a3, e4⟩ := arodF_cons e3
  have e5 := arodF_nil e4
  simp only [cells3, cellsb, cells2] at a1 a2 a3 e5
  obtain ⟨st, h1, _⟩ := arod_int u3 a1
  obtain ⟨ab, h2⟩ := arod_bool ub a2
  obtain ⟨z, h3, r3⟩ := arod_int u2 a3
  refine ⟨st, ab, z, ?_, i64_rng r3⟩
  rw [← List.take_append_drop 1 cs, h1, ← List.take_append_drop 1 (cs.drop 1), h2, ← List.take_append_drop 1 ((cs.drop 1).drop 1), h3, e5]; rfl
theorem agg_cells {v : Value} (h : Go.AM.isAgg v = true) : v = .agg v.cells := by cases v <;> first | rfl | cases h
theorem run : ∀ h avs Ds, ARods Tryz.prog h Tryz.f3.params.toList avs Ds → avs.map Go.AM.isAgg = Tryz.f3.params.toList.map (aggTy Tryz.prog) → ∃ n h', callF X n ⟨h.size, []⟩ 3 avs h = some (.bool true, h') := by
  intro h avs Ds ha hs
  rw [show Tryz.f3.params.toList = [23, 24] by rw [Tryz.params3]] at ha hs
  have hs2 : [23, 24].map (aggTy Tryz.prog) = [true, false] := by simp [aggTy, uRu, uGs]
  rw [hs2] at hs
  obtain ⟨v0, v1, rfl⟩ : ∃ v0 v1, avs = [v0, v1] := by
    rcases avs with _ | ⟨v0, _ | ⟨v1, _ | ⟨v2, r⟩⟩⟩
    · simp at hs
    · simp at hs
    · exact ⟨_, _, rfl⟩
    · simp at hs
  obtain ⟨d0, d1, rfl⟩ : ∃ d0 d1, Ds = [d0, d1] := by
    rcases Ds with _ | ⟨d0, _ | ⟨d1, _ | ⟨d2, r⟩⟩⟩
    · exact ha.elim
    · exact ha.2.elim
    · exact ⟨_, _, rfl⟩
    · exact ha.2.2.elim
  obtain ⟨⟨f0, a0⟩, ⟨f1, a1⟩, _⟩ := ha
  simp only [List.map_cons, List.map_nil, List.cons.injEq, and_true] at hs
  rw [one_cells hs.2] at a1
  obtain ⟨st, ab, z, hst, hz⟩ := arod_rule a0
  have hv0 : v0 = .agg #[.int .i64 st, .bool ab, .int .i64 z] := by
    rw [agg_cells hs.1]; congr 1; apply Array.ext'; exact hst
  subst hv0
  obtain ⟨xs, hr, hx⟩ := arod_segs a1
  obtain ⟨v, h', ⟨n, e⟩, q⟩ := maps_law (f := h.size) (st := st) (ab := ab) hr hx hz
  subst q
  exact ⟨n, h', e⟩
set_option maxRecDepth 100000 in
theorem lifted (os : Os) (started : os.Started) (H : Type) (enc : TypeId × Value → H) :
    ReturnsInHanded {} Tryz.checked os 3 .any (Rows.codecMapsSpec.pre6 enc Tryz.prog Tryz.f3 Rows.codecMapsRow.domain false) (Rows.codecMapsSpec.post enc Tryz.prog Tryz.f3 false true false false) := by
  refine returnsInHanded_of_change (C := Tryz.checked) own started (by kernel_rfl) Tryz.func3
    (ChangeSpec.witness6 (enc := enc) (C := Tryz.checked) false ⟨#[], #[.agg #[.int .i64 0, .bool false, .int .i64 0], .slice none 0 0], []⟩ 8 (by kernel_rfl) (by kernel_rfl) (by kernel_rfl) (by kernel_rfl)) ?_
  intro W base args ds gs before hval0 hW hcnd _
  have hW' := hW
  obtain ⟨p, q, hA0, hV, rfl, hfz, hnd⟩ := hW
  have hA : DataW.TrodAll enc Tryz.prog W 0 (fun _ => true) true Tryz.f3.params.toList args.toList ds p := hA0
  obtain ⟨rfl, rfl⟩ := trodVars_none hV
  simp only [List.append_nil] at hW'
  have hval : ∀ (j : Nat) (t : TypeId) (v : Value), Tryz.f3.params.toList[j]? = some t → args[j]? = some v → Value.okWide Tryz.prog W .any base t v := fun j t v h1 h2 => hval0 j t v (by rw [← Array.getElem?_toList]; exact h1) h2
  refine (law_run T1 hA hval (of_decide_eq_true (by kernel_rfl)) run).mono fun e W' ⟨he, bel⟩ => ?_
  subst he
  have hA' := trodAll_below laidOut bel _ _ _ _ (of_decide_eq_true (by kernel_rfl)) hA
  have hds : ∃ d1 d2, ds = [d1, d2] := by
    rw [Tryz.params3] at hA
    obtain ⟨v0, vs0, d0, ds0, p0, q0, hargs, rfl, rfl, h0, r0⟩ := trodAll_cons hA
    obtain ⟨v1, vs1, d1, ds1, p1, q1, rfl, rfl, rfl, h1, r1⟩ := trodAll_cons r0
    obtain ⟨rfl, rfl, rfl⟩ := trodAll_nil r1
    exact ⟨_, _, rfl⟩
  obtain ⟨d1, d2, rfl⟩ := hds
  exact ⟨_, rfl, _, _, _, [], _, [], hW', trodAll_mk1 (shut_bool Tryz.underlying4 _), hA', rfl, bel.frame _, fun h => by cases h⟩

theorem over : Rows.codecMapsRow.holds Tryz.pinned (OpenSpec.ofChange Rows.codecMapsSpec) :=
  OpenClaim.holds_of_wide 3 Tryz.f3 rfl rfl rfl rfl rfl rfl rfl ⟨rfl, rfl, rfl, rfl, rfl⟩ rfl rfl rfl rfl rfl (by kernel_rfl) Tryz.func3 (by kernel_rfl)
    (of_decide_eq_true (by kernel_rfl)) (by unfold Func.isWrapper; first | (rw [if_pos (by decide +kernel)]; kernel_rfl) | (rw [if_neg (by decide +kernel)]; exact ⟨rfl, rfl⟩))
    (fun os started H enc _ => lifted os started H enc)
theorem proved : Rows.CodecMapsSaid := over
end Go.Proofs.YtmjaanhphkbkeaaGreat
#print axioms Go.Proofs.YtmjaanhphkbkeaaGreat.proved
end
