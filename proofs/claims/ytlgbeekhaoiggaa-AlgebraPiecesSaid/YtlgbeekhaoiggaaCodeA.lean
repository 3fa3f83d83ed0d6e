import Derived.Test.YtlgbeekhaoiggaaCodeF
import Derived.Test.YtlgbeekhaoiggaaAmG
import Derived.Test.YtlgbeekhaoiggaaAmH
import Derived.Test.YtlgbeekhaoiggaaRows
import Derived.Lib.Strings
import Derived.Lib.Slices
import Derived.Lib.Walk
import Derived.Lib.Builder
import Derived.Lib.AppendStr
import Derived.Lib.UnsafeStr
import Derived.Laws.Externs
import Derived.WalkKit
set_option linter.all false
section
namespace Go.Proofs.Ytlgbeekhaoiggaa
open Go.AM
def extS (g : FuncId) : Option (Ctx → List Value → Heap → Option (Value × Heap)) :=
  if g = 116 then some (sCopy 95) else if g = 89 then some (sString 95 5) else none
def sorts (g : FuncId) : Bool := g == 96 || g == 105
noncomputable def Xs (fl : FuncId → Flag) : Tab := { fn := fun g => bif sorts g then none else cFn Try.prog (fl g) g, ext := extS, meth := cMeth Try.prog }
noncomputable abbrev X : Tab := Xs flS
end Go.Proofs.Ytlgbeekhaoiggaa
end

section
namespace Go.Proofs.Ytlgbeekhaoiggaa
open Go.RowKit
set_option maxHeartbeats 1000000 in
set_option maxRecDepth 100000 in
theorem copy_used (b : Nat) (w : World) (h0 : w.cell? ⟨b, 0, none⟩ = some (.pointer (some ⟨b, 0, none⟩))) :
    Calls Try.prog 116 #[.pointer (some ⟨b, 0, none⟩)] w fun e w' => e = .returned (.tuple #[]) ∧ w' = w := by
  obtain ⟨j, hj, _⟩ := Option.map_eq_some_iff.1 (show (Try.prog.info? 95).map (·.size) = some 2 by kernel_rfl)
  go_enter Try.func116, Try.ntmps116
  go_wp2
  rw [Lib.run_neq_ptr_same w _ Try.underlying92 hj]
  go_wp2
  go_end0
  exact ⟨rfl, rfl⟩
set_option maxHeartbeats 1000000 in
set_option maxRecDepth 100000 in
theorem copy_fresh (b : Nat) (w : World) (h0 : w.cell? ⟨b, 0, none⟩ = some (.pointer none)) (hsh : w.shape? b = some (95, 2)) (hfz : w.frozen? ⟨b, 0, none⟩ = false) :
    Calls Try.prog 116 #[.pointer (some ⟨b, 0, none⟩)] w fun e w' => e = .returned (.tuple #[]) ∧ w' = w.setCell ⟨b, 0, none⟩ (.pointer (some ⟨b, 0, none⟩)) := by
  obtain ⟨j, hj, hjs⟩ := Option.map_eq_some_iff.1 (show (Try.prog.info? 95).map (·.size) = some 2 by kernel_rfl)
  go_enter Try.func116, Try.ntmps116
  go_wp2
  rw [Lib.run_to_unsafe w ⟨b, 0, none⟩ Try.underlying92 Try.underlying160 hj (by rw [hjs]; decide) hsh (Nat.zero_lt_succ 1)]
  simp only [Result.andThen]
  rw [Oper.upon_value]
  go_wp2
  rw [run_callFunc_extern Try.func146 (by kernel_rfl) (by kernel_rfl) (by kernel_rfl) (e := Extern.AbiNoEscape.same) (by kernel_rfl)]
  rw [Lib.run_noEscape]
  simp only [Result.andThen]
  rw [Oper.upon_value]
  go_wp2
  rw [Lib.run_from_unsafe w ⟨b, 0, none⟩ Try.underlying160 Try.underlying92 hj hsh (by kernel_rfl)]
  simp only [Result.andThen]
  rw [Oper.upon_value]
  go_wp2
  go_end0
  exact ⟨rfl, rfl⟩
set_option maxHeartbeats 1000000 in
set_option maxRecDepth 100000 in
theorem string_nil (b : Nat) (p : Value) (t : TypeId) (fz : Nat × Nat) (w : World) (hbk : w.heap[b]? = some (.cells #[p, .slice none 0 0] t fz)) :
    Calls Try.prog 89 #[.pointer (some ⟨b, 0, none⟩)] w fun e w' => e = .returned (.string .empty) ∧ w' = w.drew := by
  have hUS : ∀ W, (Builtin.unsafeString_ #[128, 3] 9 #[.pointer none, .int .i64 0]).run Try.prog W = .ok (.string .empty) W := fun W => Lib.run_unsafeString_none W _ _ _ none
  have c1 : w.drew.cell? ⟨b, 1, none⟩ = some (.slice none 0 0) := by
    have : w.drew.heap[b]? = some (.cells #[p, .slice none 0 0] t fz) := hbk
    rw [Lib.cell_of_heap this]; rfl
  have hSD : (Builtin.unsafeSliceData_ #[93] 128 #[.slice none 0 0]).run Try.prog w.drew = .ok (.pointer none) w.drew := rfl
  go_enter Try.func89, Try.ntmps89
  go_wp2
  go_region
  all_goals (go_wp2; go_ret; exact ⟨rfl, rfl⟩)
set_option maxHeartbeats 1000000 in
set_option maxRecDepth 100000 in
theorem string_row (b g o cap : Nat) (p : Value) (t : TypeId) (fz fz' : Nat × Nat) (cur : Array Value) (l : List Int) (w : World) (h0 : l ≠ []) (hc0 : l.length ≤ cap) (h63 : l.length ≤ 9223372036854775807)
    (hbk : w.heap[b]? = some (.cells #[p, .slice (some ⟨g, o, none⟩) l.length cap] t fz)) (hg : w.heap[g]? = some (.cells cur 5 fz')) (hn : o + l.length ≤ cur.size)
    (hcell : ∀ j x, l[j]? = some x → cur[o + j]? = some (.int .u8 x)) :
    Calls Try.prog 89 #[.pointer (some ⟨b, 0, none⟩)] w fun e w' => e = .returned (.string (AM.strI l)) ∧ w' = w.drew.freeze ⟨g, o, none⟩ l.length := by
  have c1 : w.drew.cell? ⟨b, 1, none⟩ = some (.slice (some ⟨g, o, none⟩) l.length cap) := by
    have : w.drew.heap[b]? = some (.cells #[p, .slice (some ⟨g, o, none⟩) l.length cap] t fz) := hbk
    rw [Lib.cell_of_heap this]; rfl
  have hl0 : l.length ≠ 0 := by simpa using h0
  have hSD : (Builtin.unsafeSliceData_ #[93] 128 #[.slice (some ⟨g, o, none⟩) l.length cap]).run Try.prog w.drew = .ok (.pointer (some ⟨g, o, none⟩)) w.drew :=
    Lib.run_unsafeSliceData_row _ _ _ _ _ _ (by omega)
  have hUS : (Builtin.unsafeString_ #[128, 3] 9 #[.pointer (some ⟨g, o, none⟩), .int .i64 l.length]).run Try.prog w.drew = .ok (.string (AM.strI l)) (w.drew.freeze ⟨g, o, none⟩ l.length) := by
    have hg' : w.drew.heap[g]? = some (.cells cur 5 fz') := hg
    refine AM.run_unsafeString_at w.drew 128 3 9 5 Try.underlying128 (by kernel_rfl) g o cur.size (by simp [World.shape?, hg']) l h0 hn h63 (fun j x hj => ?_)
    rw [show (⟨g, o, none⟩ : Addr).add j = ⟨g, o + j, none⟩ by unfold Addr.add; by_cases hj : j = 0 <;> simp [hj], Lib.cell_of_heap hg']
    exact hcell j x hj
  go_enter Try.func89, Try.ntmps89
  go_wp2
  go_region
  all_goals (go_wp2; go_ret; exact ⟨rfl, rfl⟩)
theorem extCopy : AM.ExtOK Try.prog 116 (AM.sCopy 95) := AM.ext_copy (by kernel_rfl) copy_used copy_fresh
theorem extString : AM.ExtOK Try.prog 89 (AM.sString 95 5) := AM.ext_string (by kernel_rfl) string_nil string_row
end Go.Proofs.Ytlgbeekhaoiggaa
end

section
namespace Go.Proofs.Ytlgbeekhaoiggaa
open Go.AM
def canon (c : Int × Int) : Int × Int := if c.1 < 0 ∨ c.1 = 0 ∧ c.2 = -9223372036854775808 then (-1, 0) else if c.1 > 0 then (1, 0) else c
def cmpI (a b : Int) : Int := if a < b then -1 else if b < a then 1 else 0
def cmpC (a b : Int × Int) : Int := if cmpI (canon a).1 (canon b).1 = 0 then cmpI (canon a).2 (canon b).2 else cmpI (canon a).1 (canon b).1
def lessC (a b : Int × Int) : Bool := if (canon a).1 = (canon b).1 then decide ((canon a).2 < (canon b).2) else decide ((canon a).1 < (canon b).1)
def rightC (c : Int × Int) : Bool := (canon c).1 == c.1 && (canon c).2 == c.2
theorem cmpC_neg {a b : Int × Int} : cmpC a b < 0 ↔ lessC a b = true := by
  unfold cmpC lessC cmpI
  generalize canon a = x; generalize canon b = y
  repeat' split
  all_goals simp
  all_goals omega
theorem cmpC_pos {a b : Int × Int} : cmpC a b > 0 ↔ lessC b a = true := by
  unfold cmpC lessC cmpI
  generalize canon a = x; generalize canon b = y
  repeat' split
  all_goals simp
  all_goals omega
theorem cmpC_dpos {a b : Int × Int} : decide (0 < cmpC a b) = lessC b a := by
  have := @cmpC_pos a b
  cases hl : lessC b a <;> simp_all
theorem cmpC_dneg {a b : Int × Int} : decide (cmpC a b < 0) = lessC a b := by
  have := @cmpC_neg a b
  cases hl : lessC a b <;> simp_all
variable {f : Nat} {h : Heap}
theorem first_runs : Runs X ⟨f, []⟩ 90 [] h (.agg #[.int .i64 (-1), .int .i64 0]) h := by
  refine Runs_of rfl f90_is ?_
  simp only [f90r0, f90r1, f90b]
  repeat' (first
 | refine za ?_ | refine zb ?_ | refine zc ?_ | refine zd ?_ | refine ze ?_ | refine zf ?_ | refine zg ?_ | refine zh ?_ | (refine zi ?_; try refine RgD_plain rfl ?_) | refine w_drawn rfl ?_ | refine zj ?_ | refine zl ?_
 | ((first | apply zs | (apply zt; (focus rfl)) | (apply zu; (focus rfl)) | (apply zv; (focus rfl)) | apply zx | apply zy | apply zB | apply zC | apply zD | apply zE | apply zF); (focus ((conv => lhs; simp [*]); first | done | rfl)); first | apply zk | (apply zn; (focus rfl); try (focus (first | rfl | (simp [*]; done)))) | (apply zo; (focus rfl)) | apply gv_u | apply gv_tt | apply gv_ff | apply gv_ft | apply gv_tf | (apply gv_split <;> intro hc)))
theorem last_runs : Runs X ⟨f, []⟩ 117 [] h (.agg #[.int .i64 1, .int .i64 0]) h := by
  refine Runs_of rfl f117_is ?_
  simp only [f117r0, f117r1, f117b]
  repeat' (first
 | refine za ?_ | refine zb ?_ | refine zc ?_ | refine zd ?_ | refine ze ?_ | refine zf ?_ | refine zg ?_ | refine zh ?_ | (refine zi ?_; try refine RgD_plain rfl ?_) | refine w_drawn rfl ?_ | refine zj ?_ | refine zl ?_
 | ((first | apply zs | (apply zt; (focus rfl)) | (apply zu; (focus rfl)) | (apply zv; (focus rfl)) | apply zx | apply zy | apply zB | apply zC | apply zD | apply zE | apply zF); (focus ((conv => lhs; simp [*]); first | done | rfl)); first | apply zk | (apply zn; (focus rfl); try (focus (first | rfl | (simp [*]; done)))) | (apply zo; (focus rfl)) | apply gv_u | apply gv_tt | apply gv_ff | apply gv_ft | apply gv_tf | (apply gv_split <;> intro hc)))
theorem canon_runs {s a : Int} : Runs X ⟨f, []⟩ 104 [.agg #[.int .i64 s, .int .i64 a]] h (.agg #[.int .i64 (canon (s, a)).1, .int .i64 (canon (s, a)).2]) h := by
  refine Runs_of rfl f104_is ?_
  simp only [f104r0, f104r1, f104r2, f104r3, f104r4, f104r5, f104b]
  repeat' (first
 | refine za ?_ | refine zb ?_ | refine zc ?_ | refine zd ?_ | refine ze ?_ | refine zf ?_ | refine zg ?_ | refine zh ?_ | (refine zi ?_; try refine RgD_plain rfl ?_) | refine w_drawn rfl ?_ | refine zj ?_ | refine zl ?_
 | ((first | apply zs | (apply zt; (focus rfl)) | (apply zu; (focus rfl)) | (apply zv; (focus rfl)) | apply zw | apply zx | apply zy | apply zB | apply zC | apply zD | apply zE | apply zF); (focus ((conv => lhs; simp [*]); first | done | rfl)); first | apply zk | (apply zn; (focus rfl); try (focus (first | rfl | (simp [*]; done)))) | (apply zo; (focus rfl)) | apply gv_u | apply gv_tt | apply gv_ff | apply gv_ft | apply gv_tf | (apply gv_split <;> intro hc) | exact first_runs | exact last_runs))
  all_goals first | (simp_all [canon]; done) | (simp_all [canon]; omega) | (simp_all [canon]; split <;> simp_all <;> omega)
theorem least64_runs : Runs X ⟨f, []⟩ 107 [] h (.int .i64 (-9223372036854775808)) h := by
  refine Runs_of rfl f107_is ?_
  simp only [f107r0, f107r1, f107b]
  repeat' (first
 | refine za ?_ | refine zb ?_ | refine zc ?_ | refine zd ?_ | refine ze ?_ | refine zf ?_ | refine zg ?_ | refine zh ?_ | (refine zi ?_; try refine RgD_plain rfl ?_) | refine w_drawn rfl ?_ | refine zj ?_ | refine zl ?_
 | ((first | apply zs | (apply zt; (focus rfl)) | (apply zu; (focus rfl)) | (apply zv; (focus rfl)) | apply zx | apply zy | apply zB | apply zC | apply zD | apply zE | apply zF); (focus ((conv => lhs; simp [*]); first | done | rfl)); first | apply zk | (apply zn; (focus rfl); try (focus (first | rfl | (simp [*]; done)))) | (apply zo; (focus rfl)) | apply gv_u | apply gv_tt | apply gv_ff | apply gv_ft | apply gv_tf | (apply gv_split <;> intro hc)))
theorem canon2_runs {s a : Int} : Runs X ⟨f, []⟩ 73 [.agg #[.int .i64 s, .int .i64 a]] h (.agg #[.int .i64 (canon (s, a)).1, .int .i64 (canon (s, a)).2]) h := by
  refine Runs_of rfl f73_is ?_
  simp only [f73r0, f73r1, f73d1, f73r2, f73r3, f73r4, f73r5, f73b]
  repeat' (first
 | refine za ?_ | refine zb ?_ | refine zc ?_ | refine zd ?_ | refine ze ?_ | refine zf ?_ | refine zg ?_ | refine zh ?_ | (refine zi ?_; try refine RgD_plain rfl ?_) | refine w_drawn rfl ?_ | refine zj ?_ | refine zl ?_
 | ((first | apply zs | (apply zt; (focus rfl)) | (apply zu; (focus rfl)) | (apply zv; (focus rfl)) | apply zw | apply zx | apply zy | apply zB | apply zC | apply zD | apply zE | apply zF); (focus ((conv => lhs; simp [*]); first | done | rfl)); first | apply zk | (apply zn; (focus rfl); try (focus (first | rfl | (simp [*]; done)))) | (apply zo; (focus rfl)) | apply gv_u | apply gv_tt | apply gv_ff | apply gv_ft | apply gv_tf | (apply gv_split <;> intro hc) | exact least64_runs))
  all_goals first | (simp_all [canon]; done) | (simp_all [canon]; omega) | (simp_all [canon]; split <;> simp_all <;> omega)
theorem isNaN1_runs {a : Int} : Runs X ⟨f, []⟩ 158 [.int .i64 a] h (.bool false) h := by
  refine Runs_of rfl f158_is ?_
  simp only [f158r0, f158r1, f158b]
  repeat' (first
 | refine za ?_ | refine zb ?_ | refine zc ?_ | refine zd ?_ | refine ze ?_ | refine zf ?_ | refine zg ?_ | refine zh ?_ | (refine zi ?_; try refine RgD_plain rfl ?_) | refine w_drawn rfl ?_ | refine zj ?_ | refine zl ?_
 | ((first | apply zs | (apply zt; (focus rfl)) | (apply zu; (focus rfl)) | (apply zv; (focus rfl)) | apply zx | apply zy | apply zB | apply zC | apply zD | apply zE | apply zF); (focus ((conv => lhs; simp [*]); first | done | rfl)); first | apply zk | (apply zn; (focus rfl); try (focus (first | rfl | (simp [*]; done)))) | (apply zo; (focus rfl)) | apply gv_u | apply gv_tt | apply gv_ff | apply gv_ft | apply gv_tf | (apply gv_split <;> intro hc)))
theorem isNaN2_runs {a : Int} : Runs X ⟨f, []⟩ 159 [.int .i64 a] h (.bool false) h := by
  refine Runs_of rfl f159_is ?_
  simp only [f159r0, f159r1, f159b]
  repeat' (first
 | refine za ?_ | refine zb ?_ | refine zc ?_ | refine zd ?_ | refine ze ?_ | refine zf ?_ | refine zg ?_ | refine zh ?_ | (refine zi ?_; try refine RgD_plain rfl ?_) | refine w_drawn rfl ?_ | refine zj ?_ | refine zl ?_
 | ((first | apply zs | (apply zt; (focus rfl)) | (apply zu; (focus rfl)) | (apply zv; (focus rfl)) | apply zx | apply zy | apply zB | apply zC | apply zD | apply zE | apply zF); (focus ((conv => lhs; simp [*]); first | done | rfl)); first | apply zk | (apply zn; (focus rfl); try (focus (first | rfl | (simp [*]; done)))) | (apply zo; (focus rfl)) | apply gv_u | apply gv_tt | apply gv_ff | apply gv_ft | apply gv_tf | (apply gv_split <;> intro hc)))
theorem cmp1_runs {a b : Int} : Runs X ⟨f, []⟩ 128 [.int .i64 a, .int .i64 b] h (.int .i64 (cmpI a b)) h := by
  refine Runs_of rfl f128_is ?_
  simp only [f128r0, f128r1, f128r2, f128r3, f128r4, f128r5, f128r6, f128r7, f128r8, f128r9, f128r10, f128r11, f128r12, f128r13, f128b]
  repeat' (first
 | refine za ?_ | refine zb ?_ | refine zc ?_ | refine zd ?_ | refine ze ?_ | refine zf ?_ | refine zg ?_ | refine zh ?_ | (refine zi ?_; try refine RgD_plain rfl ?_) | refine w_drawn rfl ?_ | refine zj ?_ | refine zl ?_
 | ((first | apply zs | (apply zt; (focus rfl)) | (apply zu; (focus rfl)) | (apply zv; (focus rfl)) | apply zw | apply zx | apply zy | apply zB | apply zC | apply zD | apply zE | apply zF); (focus ((conv => lhs; simp [*]); first | done | rfl)); first | apply zk | (apply zn; (focus rfl); try (focus (first | rfl | (simp [*]; done)))) | (apply zo; (focus rfl)) | apply gv_u | apply gv_tt | apply gv_ff | apply gv_ft | apply gv_tf | (apply gv_split <;> intro hc) | exact isNaN1_runs))
  all_goals (simp_all [cmpI]; try omega)
theorem cmp2_runs {a b : Int} : Runs X ⟨f, []⟩ 129 [.int .i64 a, .int .i64 b] h (.int .i64 (cmpI a b)) h := by
  refine Runs_of rfl f129_is ?_
  simp only [f129r0, f129r1, f129r2, f129r3, f129r4, f129r5, f129r6, f129r7, f129r8, f129r9, f129r10, f129r11, f129r12, f129r13, f129b]
  repeat' (first
 | refine za ?_ | refine zb ?_ | refine zc ?_ | refine zd ?_ | refine ze ?_ | refine zf ?_ | refine zg ?_ | refine zh ?_ | (refine zi ?_; try refine RgD_plain rfl ?_) | refine w_drawn rfl ?_ | refine zj ?_ | refine zl ?_
 | ((first | apply zs | (apply zt; (focus rfl)) | (apply zu; (focus rfl)) | (apply zv; (focus rfl)) | apply zw | apply zx | apply zy | apply zB | apply zC | apply zD | apply zE | apply zF); (focus ((conv => lhs; simp [*]); first | done | rfl)); first | apply zk | (apply zn; (focus rfl); try (focus (first | rfl | (simp [*]; done)))) | (apply zo; (focus rfl)) | apply gv_u | apply gv_tt | apply gv_ff | apply gv_ft | apply gv_tf | (apply gv_split <;> intro hc) | exact isNaN2_runs))
  all_goals (simp_all [cmpI]; try omega)
theorem or_runs {b : Nat} {x y : Int} (hb : b < h.size) (hc : h.cellsAt b = some [.int .i64 x, .int .i64 y]) : Runs X ⟨f, []⟩ 120 [.slice (some ⟨b, 0, none⟩) 2 2] h (.int .i64 (if x = 0 then y else x)) h := by
  refine Runs_of rfl f120_is ?_
  simp only [f120r0, f120r1, f120r2, f120r3, f120r4, f120r5, f120r6, f120r7, f120l8, f120r9, f120b]
  have e1 : ¬ b = h.size := Nat.ne_of_lt hb
  have e2 : ∀ x, ¬ b = h.size + x := fun x => by omega
  repeat' (first
 | refine za ?_ | refine zb ?_ | refine zc ?_ | refine zd ?_ | refine ze ?_ | refine zf ?_ | refine zg ?_ | refine zh ?_ | (refine zi ?_; try refine RgD_plain rfl ?_) | refine w_drawn rfl ?_ | refine zj ?_ | refine zl ?_ | refine zm ?_
 | ((first | apply zs | (apply zt; (focus rfl)) | (apply zu; (focus rfl)) | (apply zv; (focus rfl)) | apply zx | apply zy | apply zB | apply zC | apply zD | apply zE | apply zF); (focus ((conv => lhs; simp [*]); first | done | rfl)); first | apply zk | (apply zn; (focus rfl); try (focus (first | rfl | (simp [*]; done)))) | (apply zo; (focus rfl)) | apply gv_u | apply gv_tt | apply gv_ff | apply gv_ft | apply gv_tf | (apply gv_split <;> intro hc)))
  all_goals simp_all
end Go.Proofs.Ytlgbeekhaoiggaa
end

section
namespace Go.Proofs.Ytlgbeekhaoiggaa
open Go.AM
variable {f : Nat} {h : Heap}
theorem compare_runs {a b c d : Int} : Runs X ⟨f, []⟩ 103 [.agg #[.int .i64 a, .int .i64 b], .agg #[.int .i64 c, .int .i64 d]] h (.int .i64 (cmpC (a, b) (c, d))) h := by
  refine Runs_of rfl f103_is ?_
  simp only [f103r0, f103r1, f103d1, f103r2, f103d2, f103b]
  repeat' (first
 | refine za ?_ | refine zb ?_ | refine zc ?_ | refine zd ?_ | refine ze ?_ | refine zf ?_ | refine zg ?_ | refine zh ?_ | (refine zi ?_; try refine RgD_plain rfl ?_) | refine w_drawn rfl ?_ | refine zj ?_ | refine zl ?_
 | ((first | apply zs | (apply zt; (focus rfl)) | (apply zu; (focus rfl)) | (apply zv; (focus rfl)) | apply zw | apply zx | apply zy | apply zB | apply zC | apply zD | apply zE | apply zF); (focus ((conv => lhs; simp [*]); first | done | rfl)); first | apply zk | (apply zn; (focus rfl); try (focus (first | rfl | (simp [*]; done)))) | (apply zo; (focus rfl)) | apply gv_u | apply gv_tt | apply gv_ff | apply gv_ft | apply gv_tf | (apply gv_split <;> intro hc) | exact canon_runs | exact cmp1_runs | exact cmp2_runs | exact (or_runs (by simp) (by rw [cellsAt_push, if_pos (by simp)]; rfl))))
  all_goals first | (simp_all [cmpC]; done) | trace_state
theorem rightC_runs {a b : Int} : Runs X ⟨f, []⟩ 102 [.agg #[.int .i64 a, .int .i64 b]] h (.bool (rightC (a, b))) h := by
  refine Runs_of rfl f102_is ?_
  simp only [f102r0, f102r1, f102d1, f102b]
  repeat' (first
 | refine za ?_ | refine zb ?_ | refine zc ?_ | refine zd ?_ | refine ze ?_ | refine zf ?_ | refine zg ?_ | refine zh ?_ | (refine zi ?_; try refine RgD_plain rfl ?_) | refine w_drawn rfl ?_ | refine zj ?_ | refine zl ?_
 | ((first | apply zs | (apply zt; (focus rfl)) | (apply zu; (focus rfl)) | (apply zv; (focus rfl)) | apply zw | apply zx | apply zy | apply zB | apply zC | apply zD | apply zE | apply zF); (focus ((conv => lhs; simp [*]); first | done | rfl)); first | apply zk | (apply zn; (focus rfl); try (focus (first | rfl | (simp [*]; done)))) | (apply zo; (focus rfl)) | apply gv_u | apply gv_tt | apply gv_ff | apply gv_ft | apply gv_tf | (apply gv_split <;> intro hc) | exact canon_runs))
  all_goals first | (simp_all [rightC, eqs, eqV, eqK]; done) | trace_state
theorem less_runs {a b c d : Int} : Runs X ⟨f, []⟩ 38 [.agg #[.int .i64 a, .int .i64 b], .agg #[.int .i64 c, .int .i64 d]] h (.bool (lessC (a, b) (c, d))) h := by
  refine Runs_of rfl f38_is ?_
  simp only [f38r0, f38r1, f38r2, f38r3, f38r4, f38r5, f38b]
  repeat' (first
 | refine za ?_ | refine zb ?_ | refine zc ?_ | refine zd ?_ | refine ze ?_ | refine zf ?_ | refine zg ?_ | refine zh ?_ | (refine zi ?_; try refine RgD_plain rfl ?_) | refine w_drawn rfl ?_ | refine zj ?_ | refine zl ?_
 | ((first | apply zs | (apply zt; (focus rfl)) | (apply zu; (focus rfl)) | (apply zv; (focus rfl)) | apply zw | apply zx | apply zy | apply zB | apply zC | apply zD | apply zE | apply zF); (focus ((conv => lhs; simp [*]); first | done | rfl)); first | apply zk | (apply zn; (focus rfl); try (focus (first | rfl | (simp [*]; done)))) | (apply zo; (focus rfl)) | apply gv_u | apply gv_tt | apply gv_ff | apply gv_ft | apply gv_tf | (apply gv_split <;> intro hc) | exact canon2_runs))
  all_goals first | (simp_all [lessC]; done) | trace_state
def rightS (a b c d : Int) : Bool := rightC (a, b) && rightC (c, d) && lessC (a, b) (c, d)
theorem rightS_runs {a b c d : Int} : Runs X ⟨f, []⟩ 71 [.agg #[.int .i64 a, .int .i64 b, .int .i64 c, .int .i64 d]] h (.bool (rightS a b c d)) h := by
  refine Runs_of rfl f71_is ?_
  simp only [f71r0, f71r1, f71b]
  repeat' (first
 | refine za ?_ | refine zb ?_ | refine zc ?_ | refine zd ?_ | refine ze ?_ | refine zf ?_ | refine zg ?_ | refine zh ?_ | (refine zi ?_; try refine RgD_plain rfl ?_) | refine w_drawn rfl ?_ | refine zj ?_ | refine zl ?_
 | ((first | apply zs | (apply zt; (focus rfl)) | (apply zu; (focus rfl)) | (apply zv; (focus rfl)) | apply zw | apply zx | apply zy | apply zB | apply zC | apply zD | apply zE | apply zF); (focus ((conv => lhs; simp [*]); first | done | rfl)); first | apply zk | (apply zn; (focus rfl); try (focus (first | rfl | (simp [*]; done)))) | (apply zo; (focus rfl)) | apply gv_u | apply gv_tt | apply gv_ff | apply gv_ft | apply gv_tf | (apply gv_split <;> intro hc) | exact compare_runs | exact rightC_runs))
  all_goals first | (simp_all [rightS, cmpC_neg]; done) | trace_state
theorem rightS2_runs {a b c d : Int} : Runs X ⟨f, []⟩ 59 [.agg #[.int .i64 a, .int .i64 b, .int .i64 c, .int .i64 d]] h (.bool (rightS a b c d)) h := by
  refine Runs_of rfl f59_is ?_
  simp only [f59r0, f59r1, f59d1, f59b]
  repeat' (first
 | refine za ?_ | refine zb ?_ | refine zc ?_ | refine zd ?_ | refine ze ?_ | refine zf ?_ | refine zg ?_ | refine zh ?_ | (refine zi ?_; try refine RgD_plain rfl ?_) | refine w_drawn rfl ?_ | refine zj ?_ | refine zl ?_
 | ((first | apply zs | (apply zt; (focus rfl)) | (apply zu; (focus rfl)) | (apply zv; (focus rfl)) | apply zw | apply zx | apply zy | apply zB | apply zC | apply zD | apply zE | apply zF); (focus ((conv => lhs; simp [*]); first | done | rfl)); first | apply zk | (apply zn; (focus rfl); try (focus (first | rfl | (simp [*]; done)))) | (apply zo; (focus rfl)) | apply gv_u | apply gv_tt | apply gv_ff | apply gv_ft | apply gv_tf | (apply gv_split <;> intro hc) | exact canon2_runs | exact less_runs))
  all_goals first | (simp_all [rightS, rightC]; done) | trace_state
theorem both_runs {a b c d a' b' c' d' : Int} : Runs X ⟨f, []⟩ 122 [.agg #[.int .i64 a, .int .i64 b, .int .i64 c, .int .i64 d], .agg #[.int .i64 a', .int .i64 b', .int .i64 c', .int .i64 d']] h (.bool (rightS a b c d && rightS a' b' c' d')) h := by
  refine Runs_of rfl f122_is ?_
  simp only [f122r0, f122r1, f122b]
  repeat' (first
 | refine za ?_ | refine zb ?_ | refine zc ?_ | refine zd ?_ | refine ze ?_ | refine zf ?_ | refine zg ?_ | refine zh ?_ | (refine zi ?_; try refine RgD_plain rfl ?_) | refine w_drawn rfl ?_ | refine zj ?_ | refine zl ?_
 | ((first | apply zs | (apply zt; (focus rfl)) | (apply zu; (focus rfl)) | (apply zv; (focus rfl)) | apply zw | apply zx | apply zy | apply zB | apply zC | apply zD | apply zE | apply zF); (focus ((conv => lhs; simp [*]); first | done | rfl)); first | apply zk | (apply zn; (focus rfl); try (focus (first | rfl | (simp [*]; done)))) | (apply zo; (focus rfl)) | apply gv_u | apply gv_tt | apply gv_ff | apply gv_ft | apply gv_tf | (apply gv_split <;> intro hc) | exact rightS_runs))
  all_goals first | (simp_all; done) | trace_state
def touchS (a b c d a' b' c' d' : Int) : Bool := (rightS a b c d && rightS a' b' c' d') && ((c == a' && d == b') || (c' == a && d' == b))
theorem touch_runs {a b c d a' b' c' d' : Int} : Runs X ⟨f, []⟩ 99 [.agg #[.int .i64 a, .int .i64 b, .int .i64 c, .int .i64 d], .agg #[.int .i64 a', .int .i64 b', .int .i64 c', .int .i64 d']] h (.bool (touchS a b c d a' b' c' d')) h := by
  refine Runs_of rfl f99_is ?_
  simp only [f99r0, f99r1, f99b]
  repeat' (first
 | refine za ?_ | refine zb ?_ | refine zc ?_ | refine zd ?_ | refine ze ?_ | refine zf ?_ | refine zg ?_ | refine zh ?_ | (refine zi ?_; try refine RgD_plain rfl ?_) | refine w_drawn rfl ?_ | refine zj ?_ | refine zl ?_
 | ((first | apply zs | (apply zt; (focus rfl)) | (apply zu; (focus rfl)) | (apply zv; (focus rfl)) | apply zw | apply zx | apply zy | apply zB | apply zC | apply zD | apply zE | apply zF); (focus ((conv => lhs; simp [*]); first | done | rfl)); first | apply zk | (apply zn; (focus rfl); try (focus (first | rfl | (simp [*]; done)))) | (apply zo; (focus rfl)) | apply gv_u | apply gv_tt | apply gv_ff | apply gv_ft | apply gv_tf | (apply gv_split <;> intro hc) | exact both_runs))
  all_goals first | (simp_all [touchS]; done) | trace_state
end Go.Proofs.Ytlgbeekhaoiggaa
end

section
namespace Go.Proofs.Ytlgbeekhaoiggaa
open Go.AM
variable {f : Nat} {h : Heap}
structure Sp where
  (a b c d : Int)
  deriving DecidableEq
def spC (s : Sp) : List Value := [.int .i64 s.a, .int .i64 s.b, .int .i64 s.c, .int .i64 s.d]
theorem spC_len (s : Sp) : (spC s).length = 4 := rfl
def Sp.right (s : Sp) : Bool := rightS s.a s.b s.c s.d
abbrev SRow (h : Heap) (v : Value) (xs : List Sp) : Prop := Row h 46 4 v xs.length (elems spC xs)
theorem elem_at {α : Type} {xs : List α} {i : Nat} (h : i < xs.length) : ∃ x, xs[i]? = some x ∧ xs.drop i = x :: xs.drop (i + 1) := ⟨xs[i], List.getElem?_eq_getElem h, List.drop_eq_getElem_cons h⟩
theorem same_runs {v w : Value} {xs ys : List Sp} (hr : SRow h v xs) (hq : SRow h w ys) (hl : xs.length ≤ 100000) (hl2 : ys.length ≤ 100000) : Runs X ⟨f, []⟩ 16 [v, w] h (.bool (decide (xs = ys))) h := by
  refine Runs_of rfl f16_is ?_
  simp only [f16r0, f16r1, f16r2, f16r3, f16r4, f16r5, f16d5, f16r6, f16r7, f16l8, f16r9, f16b]
  obtain ⟨a, c, rfl⟩ := hr.form
  obtain ⟨a2, c2, rfl⟩ := hq.form
  by_cases hne : xs.length = ys.length
  · repeat' (first
 | refine za ?_ | refine zb ?_ | refine zc ?_ | refine zd ?_ | refine ze ?_ | refine zf ?_ | refine zg ?_ | refine zh ?_ | (refine zi ?_; try refine RgD_plain rfl ?_) | refine w_drawn rfl ?_ | refine zj ?_ | refine zl ?_
 | ((first | apply zs | (apply zt; (focus rfl)) | (apply zu; (focus rfl)) | (apply zv; (focus rfl)) | apply zx | apply zy | apply zB | apply zC | apply zD | apply zE | apply zF); (focus ((conv => lhs; simp [hne, *]); first | done | rfl)); first | apply zk | (apply zn; (focus rfl); try (focus (first | rfl | (simp [hne, *]; done)))) | (apply zo; (focus rfl)) | apply gv_u | apply gv_tt | apply gv_ff | apply gv_ft | apply gv_tf | (apply gv_split <;> intro hc)))
    refine w_loop (A := Nat) (fun i env h' => i ≤ xs.length ∧ env 0 = .slice a xs.length c ∧ env 1 = .slice a2 ys.length c2 ∧ env 5 = .int .i64 i ∧ h' = h ∧ decide (xs = ys) = decide (xs.drop i = ys.drop i)) (fun i => xs.length - i) (a0 := 0) ⟨by omega, by simp, by simp, by simp, rfl, rfl⟩ ?_
    rintro i env h' ⟨hi, e0, e1, e5, rfl, hs⟩
    by_cases hlt : i < xs.length
    · obtain ⟨s, hx, hd⟩ := elem_at hlt
      obtain ⟨b, o, cs, rfl, hb, hc, hga⟩ := hr.all spC_len (by omega)
      have hg : grab cs (o + i * 4) 4 = some [.int .i64 s.a, .int .i64 s.b, .int .i64 s.c, .int .i64 s.d] := hga i s hx hlt
      have hlt2 : i < ys.length := by omega
      obtain ⟨t, hx2, hd2⟩ := elem_at hlt2
      obtain ⟨b2, o2, cs2, rfl, hb2, hc2, hga2⟩ := hq.all spC_len (by omega)
      have hg2 : grab cs2 (o2 + i * 4) 4 = some [.int .i64 t.a, .int .i64 t.b, .int .i64 t.c, .int .i64 t.d] := hga2 i t hx2 hlt2
      have w1 := wadd (i := i) (by omega)
      replace hs : decide (xs = ys) = ((s.a == t.a && (s.b == t.b && (s.c == t.c && s.d == t.d))) && decide (xs.drop (i + 1) = ys.drop (i + 1))) := by
        rw [hs, hd, hd2, Bool.eq_iff_iff]; cases s; cases t; simp [and_assoc]
      clear hd hx hx2 hd2 hr hq hga hga2
      repeat' (first
 | refine za ?_ | refine zb ?_ | refine zc ?_ | refine zd ?_ | refine ze ?_ | refine zf ?_ | refine zg ?_ | refine zh ?_ | (refine zi ?_; try refine RgD_plain rfl ?_) | refine w_drawn rfl ?_ | refine zj ?_ | refine zl ?_
 | ((first | apply zs | (apply zt; (focus rfl)) | (apply zu; (focus rfl)) | (apply zv; (focus rfl)) | apply zx | apply zy | apply zB | apply zC | apply zD | apply zE | apply zF); (focus ((conv => lhs; simp [e0, e1, e5, hlt, hc, hg, hlt2, hc2, hg2, w1, *]); first | done | rfl)); first | apply zk | (apply zn; (focus rfl); try (focus (first | rfl | (simp [e0, e1, e5, hlt, hc, hg, hlt2, hc2, hg2, w1, *]; done)))) | (apply zo; (focus rfl)) | apply gv_u | apply gv_tt | apply gv_ff | apply gv_ft | apply gv_tf | (apply gv_split <;> intro hc)))
      all_goals first
        | (rw [hs]; clear hs; simp_all; done)
        | exact ⟨i + 1, ⟨by omega, by simp [e0], by simp [e1], by simp, rfl, by rw [hs]; clear hs; first | (simp_all; done) | grind⟩, by omega⟩
        | (rw [hs, tup_one]; clear hs; congr 1; simp at hc ⊢; grind)
    · have hlt2 : ¬ i < ys.length := by omega
      repeat' (first
 | refine za ?_ | refine zb ?_ | refine zc ?_ | refine zd ?_ | refine ze ?_ | refine zf ?_ | refine zg ?_ | refine zh ?_ | (refine zi ?_; try refine RgD_plain rfl ?_) | refine w_drawn rfl ?_ | refine zj ?_ | refine zl ?_
 | ((first | apply zs | (apply zt; (focus rfl)) | (apply zu; (focus rfl)) | (apply zv; (focus rfl)) | apply zx | apply zy | apply zB | apply zC | apply zD | apply zE | apply zF); (focus ((conv => lhs; simp [e0, e1, e5, hlt2, *]); first | done | rfl)); first | apply zk | (apply zn; (focus rfl); try (focus (first | rfl | (simp [e0, e1, e5, hlt2, *]; done)))) | (apply zo; (focus rfl)) | apply gv_u | apply gv_tt | apply gv_ff | apply gv_ft | apply gv_tf | (apply gv_split <;> intro hc)))
      all_goals first
        | (rw [hs, List.drop_eq_nil_of_le (by omega), List.drop_eq_nil_of_le (by omega)]; simp; done)
  · have e : decide (xs = ys) = false := by simp; intro q; exact hne (by rw [q])
    have hne' : ((xs.length : Int) != ys.length) = true := by simp; omega
    repeat' (first
 | refine za ?_ | refine zb ?_ | refine zc ?_ | refine zd ?_ | refine ze ?_ | refine zf ?_ | refine zg ?_ | refine zh ?_ | (refine zi ?_; try refine RgD_plain rfl ?_) | refine w_drawn rfl ?_ | refine zj ?_ | refine zl ?_
 | ((first | apply zs | (apply zt; (focus rfl)) | (apply zu; (focus rfl)) | (apply zv; (focus rfl)) | apply zx | apply zy | apply zB | apply zC | apply zD | apply zE | apply zF); (focus ((conv => lhs; simp [hne', e, *]); first | done | rfl)); first | apply zk | (apply zn; (focus rfl); try (focus (first | rfl | (simp [hne', e, *]; done)))) | (apply zo; (focus rfl)) | apply gv_u | apply gv_tt | apply gv_ff | apply gv_ft | apply gv_tf | (apply gv_split <;> intro hc)))
theorem elems_ints {α : Type} {enc : α → List Value} (he : ∀ x v, v ∈ enc x → ∃ k m, v = .int k m) (xs : List α) : ∀ v ∈ elems enc xs, ∃ k m, v = .int k m := by
  intro v hv
  obtain ⟨x, _, hx⟩ := List.mem_flatMap.1 hv
  exact he x v hx
theorem spC_ints (x : Sp) (v : Value) (hv : v ∈ spC x) : ∃ k m, v = .int k m := by
  simp [spC] at hv; rcases hv with rfl | rfl | rfl | rfl <;> exact ⟨_, _, rfl⟩
theorem all_one_ints {l : List Value} (hl : ∀ v ∈ l, ∃ k m, v = .int k m) : l.all one = true := by
  rw [List.all_eq_true]; intro v hv
  obtain ⟨k, m, rfl⟩ := hl v hv; rfl
end Go.Proofs.Ytlgbeekhaoiggaa
end
