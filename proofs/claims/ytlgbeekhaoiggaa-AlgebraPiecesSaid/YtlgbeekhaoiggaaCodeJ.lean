import Derived.Test.YtlgbeekhaoiggaaCodeC
import Derived.Test.YtlgbeekhaoiggaaCodeA
import Derived.Shelf.SlGeneric
import Derived.Ground.SlsfProg
import Derived.Test.YtlgbeekhaoiggaaCodeI
import Derived.Test.YtlgbeekhaoiggaaAmG
import Derived.WalkKit
import Derived.OpenShut
import Derived.ShutString
import Derived.SizedLaws
set_option linter.all false
section
namespace Go.Proofs.Ytlgbeekhaoiggaa
open Go.AM Go.Shelf Go.RowKit Go.Lib Go.Sort
def layS_ren : Go.Shelf.Ren := ⟨fun | 6 => 96 | 15 => 119 | 14 => 118 | 28 => 155 | 29 => 156 | 20 => 147 | 21 => 148 | 22 => 149 | 23 => 150 | 24 => 151 | 25 => 152 | 26 => 153 | 27 => 154 | 46 => 176 | 47 => 177 | 48 => 178 | 49 => 179 | 50 => 180 | 57 => 190 | n => n, fun | 22 => 23 | 24 => 46 | 25 => 111 | 3 => 3 | 39 => 131 | 0 => 0 | 53 => 171 | 55 => 104 | 4 => 4 | 46 => 164 | 45 => 163 | 50 => 168 | 5 => 5 | 9 => 9 | 66 => 185 | 70 => 189 | 76 => 197 | 77 => 198 | n => n, fun | n => n⟩
theorem layS : Go.Proofs.SlLaysF0.n6 Try.prog layS_ren where
  mixed := by kernel_rfl
  f6 := ⟨Try.f96.name, by decide, Try.func96.trans (congrArg some (by kernel_rfl))⟩
  f14 := ⟨Try.f118.name, by decide, Try.func118.trans (congrArg some (by kernel_rfl))⟩
  f15 := Try.func119.trans (congrArg some (by kernel_rfl))
  f20 := ⟨Try.f147.name, by decide, Try.func147.trans (congrArg some (by kernel_rfl))⟩
  f21 := ⟨Try.f148.name, by decide, Try.func148.trans (congrArg some (by kernel_rfl))⟩
  f22 := ⟨Try.f149.name, by decide, Try.func149.trans (congrArg some (by kernel_rfl))⟩
  f23 := ⟨Try.f150.name, by decide, Try.func150.trans (congrArg some (by kernel_rfl))⟩
  f24 := ⟨Try.f151.name, by decide, Try.func151.trans (congrArg some (by kernel_rfl))⟩
  f25 := ⟨Try.f152.name, by decide, Try.func152.trans (congrArg some (by kernel_rfl))⟩
  f26 := ⟨Try.f153.name, by decide, Try.func153.trans (congrArg some (by kernel_rfl))⟩
  f27 := ⟨Try.f154.name, by decide, Try.func154.trans (congrArg some (by kernel_rfl))⟩
  f28 := Try.func155.trans (congrArg some (by kernel_rfl))
  f29 := Try.func156.trans (congrArg some (by kernel_rfl))
  f46 := ⟨Try.f176.name, by decide, Try.func176.trans (congrArg some (by kernel_rfl))⟩
  f47 := Try.func177.trans (congrArg some (by kernel_rfl))
  f48 := Try.func178.trans (congrArg some (by kernel_rfl))
  f49 := ⟨Try.f179.name, by decide, Try.func179.trans (congrArg some (by kernel_rfl))⟩
  f50 := ⟨Try.f180.name, by decide, Try.func180.trans (congrArg some (by kernel_rfl))⟩
  f57 := ⟨Try.f190.name, by decide, Try.func190.trans (congrArg some (by kernel_rfl))⟩
  t0 := Try.underlying0
  a0 := Try.isAgg0
  z0 := Try.sizeOf0
  v0 := Try.zeroValue0
  t3 := Try.underlying3
  a3 := Try.isAgg3
  z3 := Try.sizeOf3
  v3 := Try.zeroValue3
  t4 := Try.underlying4
  a4 := Try.isAgg4
  z4 := Try.sizeOf4
  v4 := Try.zeroValue4
  t5 := Try.underlying5
  a5 := Try.isAgg5
  z5 := Try.sizeOf5
  v5 := Try.zeroValue5
  t9 := Try.underlying9
  a9 := Try.isAgg9
  z9 := Try.sizeOf9
  v9 := Try.zeroValue9
  t22 := Try.underlying23
  a22 := Try.isAgg23
  z22 := Try.sizeOf23
  v22 := Try.zeroValue23
  t25 := Try.underlying111
  a25 := Try.isAgg111
  z25 := Try.sizeOf111
  v25 := Try.zeroValue111
  t39 := Try.underlying131
  a39 := Try.isAgg131
  z39 := Try.sizeOf131
  v39 := Try.zeroValue131
  t45 := Try.underlying163
  a45 := Try.isAgg163
  z45 := Try.sizeOf163
  v45 := Try.zeroValue163
  t46 := Try.underlying164
  a46 := Try.isAgg164
  z46 := Try.sizeOf164
  v46 := Try.zeroValue164
  t50 := Try.underlying168
  a50 := Try.isAgg168
  z50 := Try.sizeOf168
  v50 := Try.zeroValue168
  t53 := Try.underlying171
  a53 := Try.isAgg171
  z53 := Try.sizeOf171
  v53 := Try.zeroValue171
  t55 := Try.underlying104
  a55 := Try.isAgg104
  z55 := Try.sizeOf104
  v55 := Try.zeroValue104
  t66 := Try.underlying185
  a66 := Try.isAgg185
  z66 := Try.sizeOf185
  v66 := Try.zeroValue185
  t70 := Try.underlying189
  a70 := Try.isAgg189
  z70 := Try.sizeOf189
  v70 := Try.zeroValue189
  t76 := Try.underlying197
  a76 := Try.isAgg197
  z76 := Try.sizeOf197
  v76 := Try.zeroValue197
  t77 := Try.underlying198
  a77 := Try.isAgg198
  z77 := Try.sizeOf198
  v77 := Try.zeroValue198
def layC_ren : Go.Shelf.Ren := ⟨fun | 6 => 105 | 15 => 119 | 14 => 130 | 28 => 155 | 29 => 156 | 20 => 160 | 21 => 161 | 22 => 162 | 23 => 163 | 24 => 164 | 25 => 165 | 26 => 166 | 27 => 167 | 46 => 181 | 47 => 177 | 48 => 178 | 49 => 182 | 50 => 183 | 57 => 191 | n => n, fun | 22 => 41 | 24 => 44 | 25 => 118 | 3 => 3 | 39 => 131 | 0 => 0 | 53 => 171 | 55 => 104 | 4 => 4 | 46 => 164 | 45 => 163 | 50 => 168 | 5 => 5 | 9 => 9 | 66 => 185 | 70 => 189 | 76 => 197 | 77 => 198 | n => n, fun | n => n⟩
theorem layC : Go.Proofs.SlLaysF0.n6 Try.prog layC_ren where
  mixed := by kernel_rfl
  f6 := ⟨Try.f105.name, by decide, Try.func105.trans (congrArg some (by kernel_rfl))⟩
  f14 := ⟨Try.f130.name, by decide, Try.func130.trans (congrArg some (by kernel_rfl))⟩
  f15 := Try.func119.trans (congrArg some (by kernel_rfl))
  f20 := ⟨Try.f160.name, by decide, Try.func160.trans (congrArg some (by kernel_rfl))⟩
  f21 := ⟨Try.f161.name, by decide, Try.func161.trans (congrArg some (by kernel_rfl))⟩
  f22 := ⟨Try.f162.name, by decide, Try.func162.trans (congrArg some (by kernel_rfl))⟩
  f23 := ⟨Try.f163.name, by decide, Try.func163.trans (congrArg some (by kernel_rfl))⟩
  f24 := ⟨Try.f164.name, by decide, Try.func164.trans (congrArg some (by kernel_rfl))⟩
  f25 := ⟨Try.f165.name, by decide, Try.func165.trans (congrArg some (by kernel_rfl))⟩
  f26 := ⟨Try.f166.name, by decide, Try.func166.trans (congrArg some (by kernel_rfl))⟩
  f27 := ⟨Try.f167.name, by decide, Try.func167.trans (congrArg some (by kernel_rfl))⟩
  f28 := Try.func155.trans (congrArg some (by kernel_rfl))
  f29 := Try.func156.trans (congrArg some (by kernel_rfl))
  f46 := ⟨Try.f181.name, by decide, Try.func181.trans (congrArg some (by kernel_rfl))⟩
  f47 := Try.func177.trans (congrArg some (by kernel_rfl))
  f48 := Try.func178.trans (congrArg some (by kernel_rfl))
  f49 := ⟨Try.f182.name, by decide, Try.func182.trans (congrArg some (by kernel_rfl))⟩
  f50 := ⟨Try.f183.name, by decide, Try.func183.trans (congrArg some (by kernel_rfl))⟩
  f57 := ⟨Try.f191.name, by decide, Try.func191.trans (congrArg some (by kernel_rfl))⟩
  t0 := Try.underlying0
  a0 := Try.isAgg0
  z0 := Try.sizeOf0
  v0 := Try.zeroValue0
  t3 := Try.underlying3
  a3 := Try.isAgg3
  z3 := Try.sizeOf3
  v3 := Try.zeroValue3
  t4 := Try.underlying4
  a4 := Try.isAgg4
  z4 := Try.sizeOf4
  v4 := Try.zeroValue4
  t5 := Try.underlying5
  a5 := Try.isAgg5
  z5 := Try.sizeOf5
  v5 := Try.zeroValue5
  t9 := Try.underlying9
  a9 := Try.isAgg9
  z9 := Try.sizeOf9
  v9 := Try.zeroValue9
  t22 := Try.underlying41
  a22 := Try.isAgg41
  z22 := Try.sizeOf41
  v22 := Try.zeroValue41
  t25 := Try.underlying118
  a25 := Try.isAgg118
  z25 := Try.sizeOf118
  v25 := Try.zeroValue118
  t39 := Try.underlying131
  a39 := Try.isAgg131
  z39 := Try.sizeOf131
  v39 := Try.zeroValue131
  t45 := Try.underlying163
  a45 := Try.isAgg163
  z45 := Try.sizeOf163
  v45 := Try.zeroValue163
  t46 := Try.underlying164
  a46 := Try.isAgg164
  z46 := Try.sizeOf164
  v46 := Try.zeroValue164
  t50 := Try.underlying168
  a50 := Try.isAgg168
  z50 := Try.sizeOf168
  v50 := Try.zeroValue168
  t53 := Try.underlying171
  a53 := Try.isAgg171
  z53 := Try.sizeOf171
  v53 := Try.zeroValue171
  t55 := Try.underlying104
  a55 := Try.isAgg104
  z55 := Try.sizeOf104
  v55 := Try.zeroValue104
  t66 := Try.underlying185
  a66 := Try.isAgg185
  z66 := Try.sizeOf185
  v66 := Try.zeroValue185
  t70 := Try.underlying189
  a70 := Try.isAgg189
  z70 := Try.sizeOf189
  v70 := Try.zeroValue189
  t76 := Try.underlying197
  a76 := Try.isAgg197
  z76 := Try.sizeOf197
  v76 := Try.zeroValue197
  t77 := Try.underlying198
  a77 := Try.isAgg198
  z77 := Try.sizeOf198
  v77 := Try.zeroValue198
theorem enters_fn {fl : Flag} {g : FuncId} {af : AFn} (h : cFn Try.prog fl g = some af) : ∃ fn, Try.prog.funcs[g]? = some fn ∧ (fn.name == "runtime.NumGoroutine") = false ∧ fn.body.isSome := by
  simp only [cFn, Option.pure_def, Option.bind_eq_bind, Option.bind_eq_some_iff] at h
  obtain ⟨fn, h1, b, h2, h3⟩ := h
  split at h3
  · cases h3
  · rename_i hn
    exact ⟨fn, h1, by simpa using hn, by rw [h2]; rfl⟩
theorem fn_of {g : FuncId} {af : AFn} (h : X.fn g = some af) : ∃ fl, cFn Try.prog fl g = some af := by
  have h' : (bif sorts g then none else cFn Try.prog (flS g) g) = some af := h
  cases hs : sorts g with
  | true => rw [hs] at h'; cases h'
  | false => rw [hs] at h'; exact ⟨_, h'⟩
theorem ext_of {g : FuncId} {s : Ctx → List Value → Heap → Option (Value × Heap)} (h : extS g = some s) : ExtOK Try.prog g s ∧ ∃ fn, Try.prog.funcs[g]? = some fn ∧ (fn.name == "runtime.NumGoroutine") = false ∧ fn.body.isSome := by
  unfold extS at h
  split at h
  · rename_i hg
    cases h
    subst hg
    exact ⟨extCopy, _, Try.func116, by kernel_rfl, by kernel_rfl⟩
  · split at h
    · rename_i hg
      cases h
      subst hg
      exact ⟨extString, _, Try.func89, by kernel_rfl, by kernel_rfl⟩
    · cases h
theorem tabX : TabOK Try.prog X := by
  refine ⟨fun g af h => fn_of h, fun g h => ?_, fun t name f h => h, fun g s h => (ext_of h).1, by kernel_rfl⟩
  rcases h with h | h
  · obtain ⟨af, haf⟩ := Option.isSome_iff_exists.1 h
    obtain ⟨fl, q⟩ := fn_of haf
    exact enters_fn q
  · obtain ⟨s, hs⟩ := Option.isSome_iff_exists.1 h
    exact (ext_of hs).2
theorem extSp : ExtOK Try.prog 96 sSpan :=
  ext_sort tabX layS Try.isAgg46 Try.sizeOf46 spC_len spC_ints spD_of swoSpan (enters_of Try.func97 (by kernel_rfl) rfl) fun x y => spanCmp_runs
theorem extCu : ExtOK Try.prog 105 sCut :=
  ext_sort tabX layC Try.isAgg44 Try.sizeOf44 cuC_len cuC_ints cuD_of swoCut (enters_of Try.func103 (by kernel_rfl) rfl) fun x y => compare_runs
theorem tabQ : TabOK Try.prog Xq := by
  have hx : ∀ g s, Xq.ext g = some s → ExtOK Try.prog g s ∧ ∃ fn, Try.prog.funcs[g]? = some fn ∧ (fn.name == "runtime.NumGoroutine") = false ∧ fn.body.isSome := by
    intro g s h
    have h' : extQ g = some s := h
    unfold extQ at h'
    split at h'
    · rename_i hg
      cases h'
      subst hg
      exact ⟨extSp, _, Try.func96, by kernel_rfl, by kernel_rfl⟩
    · split at h'
      · rename_i hg
        cases h'
        subst hg
        exact ⟨extCu, _, Try.func105, by kernel_rfl, by kernel_rfl⟩
      · exact ext_of h'
  refine ⟨fun g af h => fn_of h, fun g h => ?_, fun t name f h => h, fun g s h => (hx g s h).1, by kernel_rfl⟩
  rcases h with h | h
  · obtain ⟨af, haf⟩ := Option.isSome_iff_exists.1 h
    obtain ⟨fl, q⟩ := fn_of haf
    exact enters_fn q
  · obtain ⟨s, hs⟩ := Option.isSome_iff_exists.1 h
    exact (hx g s hs).2
end Go.Proofs.Ytlgbeekhaoiggaa
end

section
namespace Go.Proofs.Ytlgbeekhaoiggaa
open Go.ChangeShapes Go.WideShapes Go.ChangeAt Go.RowKit Go.AM
theorem own : ownKnob Try.prog.godebug = none := by kernel_rfl
theorem laidOut : laidOutB Try.prog = true := by kernel_rfl
theorem i64_rng {n : Int} (h : (Lit.int .i64 n).wf = true) : okN n := by
  simp [Lit.wf, IntKind.min, IntKind.max, IntKind.bits, IntKind.signed] at h
  exact ⟨by omega, by omega⟩
theorem u3 : Try.prog.underlying 3 = some (.int .i64) := by kernel_rfl
theorem u2 : Try.prog.underlying 2 = some (.int .i64) := by kernel_rfl
theorem cellsSp : Try.prog.cellsOf 46 = 4 := by kernel_rfl
theorem cellsCu : Try.prog.cellsOf 44 = 2 := by kernel_rfl
theorem cells3 : Try.prog.cellsOf 3 = 1 := by kernel_rfl
theorem cells2 : Try.prog.cellsOf 2 = 1 := by kernel_rfl
theorem uSp : Try.prog.underlying 46 = some (.struct #[⟨"Low", 44, 0, false, "", "", 0⟩, ⟨"High", 44, 2, false, "", "", 16⟩]) := by kernel_rfl
theorem uCu : Try.prog.underlying 44 = some (.struct #[⟨"Side", 3, 0, false, "", "", 0⟩, ⟨"At", 2, 1, false, "", "", 8⟩]) := by kernel_rfl
theorem arod_cut {h : Heap} {f : Nat} {cs : List Value} {d : Dat} (e : arod Try.prog h f 44 cs = some d) : ∃ a b, cs = [.int .i64 a, .int .i64 b] ∧ okN a ∧ okN b := by
  obtain ⟨f', ds, e1⟩ := arod_struct uCu e
  obtain ⟨d1, ds1, a1, e2⟩ := arodF_cons e1
  obtain ⟨d2, ds2, a2, e3⟩ := arodF_cons e2
  have e4 := arodF_nil e3
  simp only [cells3, cells2] at a1 a2 e4
  obtain ⟨a, ha, wa⟩ := arod_int u3 a1
  obtain ⟨b, hb, wb⟩ := arod_int u2 a2
  refine ⟨a, b, ?_, i64_rng wa, i64_rng wb⟩
  rw [← List.take_append_drop 1 cs, ha, ← List.take_append_drop 1 (cs.drop 1), hb, e4]; rfl
def okS (s : Sp) : Prop := okN s.a ∧ okN s.b ∧ okN s.c ∧ okN s.d
theorem arod_span {h : Heap} {f : Nat} {cs : List Value} {d : Dat} (e : arod Try.prog h f 46 cs = some d) : ∃ s : Sp, cs = spC s ∧ okS s := by
  obtain ⟨f', ds, e1⟩ := arod_struct uSp e
  obtain ⟨d1, ds1, a1, e2⟩ := arodF_cons e1
  obtain ⟨d2, ds2, a2, e3⟩ := arodF_cons e2
  have e4 := arodF_nil e3
  simp only [cellsCu] at a1 a2 e4
  obtain ⟨a, b, h1, r1⟩ := arod_cut a1
  obtain ⟨c, d, h2, r2⟩ := arod_cut a2
  refine ⟨⟨a, b, c, d⟩, ?_, r1.1, r1.2, r2.1, r2.2⟩
  rw [← List.take_append_drop 2 cs, h1, ← List.take_append_drop 2 (cs.drop 2), h2, e4]; rfl
theorem uPs : Try.prog.underlying 23 = some (.slice 46) := by kernel_rfl
theorem arod_spans {h : Heap} {f : Nat} {v : Value} {d : Dat} (e : arod Try.prog h f 23 [v] = some d) : ∃ xs, SRow h v xs ∧ ∀ s ∈ xs, okP s := by
  obtain ⟨n, l, f', ds, hr, _, hl⟩ := arod_slice uPs (by rw [cellsSp]; omega) e
  rw [cellsSp] at hr hl
  obtain ⟨xs, q1, q2, q3⟩ := arodL_elems (enc := spC) (good := okS) (fun cs d hd _ => arod_span hd) n l ds hl hr.len
  subst q2
  rw [← q1] at hr
  exact ⟨xs, hr, fun s hs => ⟨(q3 s hs).2.1, (q3 s hs).2.2.2⟩⟩
theorem bytesSp : Try.prog.bytesOf 46 = 32 := by kernel_rfl
theorem mapM_len {α β : Type} {g : α → Option β} : ∀ {l : List α} {r : List β}, l.mapM g = some r → r.length = l.length
  | [], r, h => by simp at h; subst h; rfl
  | x :: l, r, h => by
    rw [List.mapM_cons] at h
    simp only [Option.pure_def, Option.bind_eq_bind] at h
    obtain ⟨y, _, h⟩ := Option.bind_eq_some_iff.1 h
    obtain ⟨ys, h2, h⟩ := Option.bind_eq_some_iff.1 h
    cases h
    simp [mapM_len h2]
theorem trod_len {H : Type} {enc : TypeId × Value → H} {P : Program} {W : World} {sp : Nat → Bool} {held : Bool} {m : Nat} {t e : TypeId} {a : Option Addr} {len cap : Nat} {d : DataW H} {p : List MemPlace} (ht : P.underlying t = some (.slice e))
    (h : DataW.trod enc P W 0 sp held m t [.slice a len cap] = some (d, p)) : len = 0 ∨ ∃ elems spare, d = .slice elems spare ∧ elems.length = len := by
  cases m with
  | zero => cases h
  | succ m =>
    unfold DataW.trod at h
    rw [ht] at h
    cases a with
    | none =>
      by_cases h0 : len = 0
      · exact .inl h0
      · exfalso
        rcases len with _ | len
        · exact h0 rfl
        · cases h
    | some a =>
      right
      dsimp only at h
      split at h
      · obtain ⟨elems, hel, h⟩ := Option.bind_eq_some_iff.1 h
        obtain ⟨rest, _, h⟩ := Option.map_eq_some_iff.1 h
        injection h with h1 _
        refine ⟨_, _, h1.symm, ?_⟩
        have := mapM_len hel
        simpa using this
      · cases h
theorem lens_of {H : Type} {enc : TypeId × Value → H} {P : Program} {W : World} {sp : Nat → Bool} {μ : Mu} {B : Nat} : ∀ {ts : List TypeId} {vs avs : List Value} {ds : List (DataW H)} {p : List MemPlace}, DataW.TrodAll enc P W 0 sp true ts vs ds p → VRs μ avs vs →
    (∀ (j : Nat) (t e : TypeId) (elems spare : List (DataW H)), ts[j]? = some t → P.underlying t = some (.slice e) → ds[j]? = some (.slice elems spare) → elems.length ≤ B) →
    ∀ (j : Nat) (t e : TypeId) (a : Option Addr) (n c : Nat), ts[j]? = some t → P.underlying t = some (.slice e) → avs[j]? = some (.slice a n c) → n ≤ B
  | [], vs, avs, ds, p, _, _, _, j, t, e, a, n, c, ht, _, _ => by simp at ht
  | t0 :: ts, vs, [], ds, p, _, _, _, j, t, e, a, n, c, _, _, ha => by simp at ha
  | t0 :: ts, vs, v :: avs, ds, p, hA, hr, hB, j, t, e, a, n, c, ht, hu, ha => by
    obtain ⟨v0, vs0, d0, ds0, p0, q0, hargs, hds0, _, ⟨m, h0⟩, r0⟩ := trodAll_cons hA
    obtain ⟨y, m', hy, hvr, hrest⟩ := VRs.cons_inv hr
    rw [hy] at hargs
    injection hargs with e1 e2
    subst e1 e2 hds0
    cases j with
    | succ j => exact lens_of r0 hrest (fun j t e el sp' h1 h2 h3 => hB (j + 1) t e el sp' (by simpa using h1) h2 (by simpa using h3)) j t e a n c (by simpa using ht) hu (by simpa using ha)
    | zero =>
      simp at ht ha
      subst ht ha
      have hlen : ∃ a' c', y = .slice a' n c' := by cases hvr <;> exact ⟨_, _, rfl⟩
      obtain ⟨a', c', rfl⟩ := hlen
      rcases trod_len hu h0 with q | ⟨elems, spare, q1, q2⟩
      · omega
      · have := hB 0 t0 e elems spare rfl hu (by rw [q1]; rfl)
        omega
end Go.Proofs.Ytlgbeekhaoiggaa
end
