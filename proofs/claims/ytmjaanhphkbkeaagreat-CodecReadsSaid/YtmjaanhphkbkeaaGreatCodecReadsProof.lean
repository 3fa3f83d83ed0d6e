/- For whatever bytes, the law CodecReads of the given program returns true: what codec.ReadSet and codec.ReadMap read is what the reference reads, in place and kind of error, and what is read is written back as it was; the bytes read behind the call as they did. No condition beyond the given statement's own. -/
import Derived.Test.YtmjaanhphkbkeaaGreatCodeP
import Derived.Test.YtmjaanhphkbkeaaGreatAmG
import Derived.WalkKit
import Derived.OpenShut
import Derived.ShutString
set_option linter.all false
section
namespace Go.Proofs.YtmjaanhphkbkeaaGreat
open Go.ChangeShapes Go.WideShapes Go.ChangeAt Go.RowKit Go.AM
set_option linter.unusedVariables false
noncomputable def X0 : Tab := { fn := fun g => cFn Tryz.prog .plain g, ext := fun _ => none, meth := cMeth Tryz.prog }
theorem own : ownKnob Tryz.prog.godebug = none := by kernel_rfl
theorem laidOut : laidOutB Tryz.prog = true := by kernel_rfl
theorem T0 : TabOK Tryz.prog X0 := tab_ok (fun _ => .plain) (fun _ => rfl) rfl (by kernel_rfl) (fun g s h => by cases h)
theorem alive_true : (callF X0 100000 ⟨0, []⟩ 5 [] #[]).map (·.1) = some (.bool true) := by kernel_rfl
theorem T1 : TabOK Tryz.prog X := by
  refine tab_ok flS (fun _ => rfl) rfl (by kernel_rfl) (fun g s h => ?_)
  have h' : (if g = 5 then some sTrue else none) = some s := h
  split at h'
  · rename_i hg
    cases h'
    subst hg
    exact ⟨ext_true T0 alive_true, _, Tryz.func5, by kernel_rfl, by kernel_rfl⟩
  · cases h'
theorem u8_rng {n : Int} (h : (Lit.int .u8 n).wf = true) : 0 ≤ n ∧ n < 256 := by
  simp [Lit.wf, IntKind.min, IntKind.max, IntKind.bits, IntKind.signed] at h
  exact ⟨by omega, by omega⟩
theorem u5 : Tryz.prog.underlying 5 = some (.int .u8) := by kernel_rfl
theorem cells5 : Tryz.prog.cellsOf 5 = 1 := by kernel_rfl
theorem uBs : Tryz.prog.underlying 28 = some (.slice 5) := by kernel_rfl
theorem elems_bv : ∀ xs : List Nat, elems (fun b => [bv b]) xs = bvs xs
  | [] => rfl
  | x :: xs => by have := elems_bv xs; simp only [elems, bvs, List.map_cons, List.flatMap_cons] at this ⊢; rw [this]; rfl
theorem arod_bytes {h : Heap} {f : Nat} {v : Value} {d : Dat} (e : arod Tryz.prog h f 28 [v] = some d) : ∃ xs, BRow h v xs ∧ ∀ b ∈ xs, b < 256 := by
  obtain ⟨n, l, f', ds, hr, _, hl⟩ := arod_slice uBs (by rw [cells5]; omega) e
  rw [cells5] at hr hl
  obtain ⟨xs, q1, q2, q3⟩ := arodL_elems (enc := fun b : Nat => [bv b]) (good := fun b => b < 256) (fun cs d hd _ => by
    obtain ⟨n, hn, wn⟩ := arod_int u5 hd
    have := u8_rng wn
    exact ⟨n.toNat, by rw [hn]; simp only [bv]; congr 3; omega, by omega⟩) n l ds hl hr.len
  subst q2
  rw [elems_bv] at hr
  rw [← q1] at hr
  exact ⟨xs, hr, q3⟩
theorem run : ∀ h avs Ds, ARods Tryz.prog h Tryz.f4.params.toList avs Ds → avs.map Go.AM.isAgg = Tryz.f4.params.toList.map (aggTy Tryz.prog) → ∃ n h', callF X n ⟨h.size, []⟩ 4 avs h = some (.bool true, h') := by
  intro h avs Ds ha hs
  rw [show Tryz.f4.params.toList = [28] by rw [Tryz.params4]] at ha hs
  have hs2 : [28].map (aggTy Tryz.prog) = [false] := by simp [aggTy, uBs]
  rw [hs2] at hs
  obtain ⟨v0, rfl⟩ : ∃ v0, avs = [v0] := by
    rcases avs with _ | ⟨v0, _ | ⟨v1, r⟩⟩
    · simp at hs
    · exact ⟨_, rfl⟩
    · simp at hs
  obtain ⟨d0, rfl⟩ : ∃ d0, Ds = [d0] := by
    rcases Ds with _ | ⟨d0, _ | ⟨d1, r⟩⟩
    · exact ha.elim
    · exact ⟨_, rfl⟩
    · exact ha.2.elim
  obtain ⟨⟨f0, a0⟩, _⟩ := ha
  simp only [List.map_cons, List.map_nil, List.cons.injEq, and_true] at hs
  rw [one_cells hs] at a0
  obtain ⟨xs, hr, hx⟩ := arod_bytes a0
  obtain ⟨v, h', ⟨n, e⟩, q⟩ := reads_law (f := h.size) hr hx
  subst q
  exact ⟨n, h', e⟩
set_option maxRecDepth 100000 in
theorem lifted (os : Os) (started : os.Started) (H : Type) (enc : TypeId × Value → H) :
    ReturnsInHanded {} Tryz.checked os 4 .any (Rows.codecReadsSpec.pre6 enc Tryz.prog Tryz.f4 Rows.codecReadsRow.domain false) (Rows.codecReadsSpec.post enc Tryz.prog Tryz.f4 false true false false) := by
  refine returnsInHanded_of_change (C := Tryz.checked) own started (by kernel_rfl) Tryz.func4
    (ChangeSpec.witness6 (enc := enc) (C := Tryz.checked) false ⟨#[], #[.slice none 0 0], []⟩ 8 (by kernel_rfl) (by kernel_rfl) (by kernel_rfl) (by kernel_rfl)) ?_
  intro W base args ds gs before hval0 hW hcnd _
  have hW' := hW
  obtain ⟨p, q, hA0, hV, rfl, hfz, hnd⟩ := hW
  have hA : DataW.TrodAll enc Tryz.prog W 0 (fun _ => true) true Tryz.f4.params.toList args.toList ds p := hA0
  obtain ⟨rfl, rfl⟩ := trodVars_none hV
  simp only [List.append_nil] at hW'
  have hval : ∀ (j : Nat) (t : TypeId) (v : Value), Tryz.f4.params.toList[j]? = some t → args[j]? = some v → Value.okWide Tryz.prog W .any base t v := fun j t v h1 h2 => hval0 j t v (by rw [← Array.getElem?_toList]; exact h1) h2
  refine (law_run T1 hA hval (of_decide_eq_true (by kernel_rfl)) run).mono fun e W' ⟨he, bel⟩ => ?_
  subst he
  have hA' := trodAll_below laidOut bel _ _ _ _ (of_decide_eq_true (by kernel_rfl)) hA
  have hds : ∃ d1, ds = [d1] := by
    rw [Tryz.params4] at hA
    obtain ⟨v0, vs0, d0, ds0, p0, q0, hargs, rfl, rfl, h0, r0⟩ := trodAll_cons hA
    obtain ⟨rfl, rfl, rfl⟩ := trodAll_nil r0
    exact ⟨_, rfl⟩
  obtain ⟨d1, rfl⟩ := hds
  exact ⟨_, rfl, _, _, _, [], _, [], hW', trodAll_mk1 (shut_bool Tryz.underlying4 _), hA', rfl, bel.frame _, fun h => by cases h⟩

theorem over : Rows.codecReadsRow.holds Tryz.pinned (OpenSpec.ofChange Rows.codecReadsSpec) :=
  OpenClaim.holds_of_wide 4 Tryz.f4 rfl rfl rfl rfl rfl rfl rfl ⟨rfl, rfl, rfl, rfl, rfl⟩ rfl rfl rfl rfl rfl (by kernel_rfl) Tryz.func4 (by kernel_rfl)
    (of_decide_eq_true (by kernel_rfl)) (by unfold Func.isWrapper; first | (rw [if_pos (by decide +kernel)]; kernel_rfl) | (rw [if_neg (by decide +kernel)]; exact ⟨rfl, rfl⟩))
    (fun os started H enc _ => lifted os started H enc)
theorem proved : Rows.CodecReadsSaid := over
end Go.Proofs.YtmjaanhphkbkeaaGreat
#print axioms Go.Proofs.YtmjaanhphkbkeaaGreat.proved
end
