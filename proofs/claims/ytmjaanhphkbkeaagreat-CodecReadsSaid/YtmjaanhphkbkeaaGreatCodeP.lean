import Derived.Test.YtmjaanhphkbkeaaGreatCodeO
set_option linter.all false
section
namespace Go.Proofs.YtmjaanhphkbkeaaGreat
open Go.AM
set_option linter.unusedSimpArgs false
set_option linter.unusedVariables false
variable {f : Nat} {h : Heap}
theorem alive_runs {κ : Ctx} : Runs X κ 5 [] h (.bool true) h := Runs_ext (s := sTrue) rfl rfl
theorem readP_bad {l : List Nat} {m : Bool} (h : (readP l m).ok = false) : (readP l m).st = 0 ∧ (readP l m).ab = false ∧ (readP l m).z = 0 ∧ (readP l m).gs = [] := by
  unfold readP at h ⊢
  split at h
  · rename_i h1; rw [if_pos h1]; exact ⟨rfl, rfl, rfl, rfl⟩
  · rename_i h1
    rw [if_neg h1]
    simp only at h ⊢
    split at h
    · rename_i h2; rw [if_pos h2]; exact ⟨rfl, rfl, rfl, rfl⟩
    · rename_i h2
      rw [if_neg h2]
      split at h
      · rename_i h3; rw [if_pos h3]; exact ⟨rfl, rfl, rfl, rfl⟩
      · rename_i h3
        rw [if_neg h3]
        split at h
        · rename_i h4; rw [if_pos h4]; exact ⟨rfl, rfl, rfl, rfl⟩
        · rename_i h4
          rw [if_neg h4]
          split at h
          · rename_i h5; rw [if_pos h5]; exact ⟨rfl, rfl, rfl, rfl⟩
          · rename_i h5
            rw [if_neg h5]
            split at h
            · cases h
            · rename_i h6
              rw [if_neg h6]; exact ⟨rfl, rfl, rfl, rfl⟩
set_option maxHeartbeats 4000000 in
theorem rest_runs {A B C D E REST : ACode} {a : Option Addr} {c : Nat} {l : List Nat} {env : Env} {h3 : Heap} (hb : f4b = .seq A (.seq B (.seq C (.seq D (.seq E REST)))))
    (hr : BRow h (.slice a l.length c) l) (hby : ∀ b ∈ l, b < 256) (hlen : l.length ≤ 2000) (e0 : env 0 = .slice a l.length c) (e9 : env 9 = .bool (readP l false).ok) (k3 : KeepB h h3 none) :
    Ok X (Flag.pure.ctx ⟨f, []⟩ h.size) REST env h3 (EndsR [ARes.tmp 2] Flag.pure h fun r x => r = Value.bool true) := by
  simp only [f4b, ACode.seq.injEq] at hb
  obtain ⟨-, -, -, -, -, rfl⟩ := hb
  have hr3 := hr.keepB k3 (.inl rfl)
  have k3s := k3.1
  simp only [f4r0, f4r1, f4r2, f4r3, f4r4, f4r5, f4r6, f4r7, f4r8, f4r9, f4r10, f4r11, f4b]
  repeat (first
 | refine za ?_ | refine zb ?_ | refine zc ?_ | refine zd ?_ | refine ze ?_ | refine zf ?_ | refine zg ?_ | refine zh ?_ | (refine zi ?_; try refine RgD_plain rfl ?_) | refine w_drawn rfl ?_ | refine zj ?_ | refine zl ?_
 | ((first | apply zs | (apply zt; (focus rfl)) | (apply zu; (focus rfl)) | (apply zv; (focus rfl)) | apply zx | apply zy | apply zB | apply zC | apply zD | apply zE | apply zF); (focus ((conv => lhs; simp [e0, e9]); first | done | rfl)); first | apply zk | (apply zn; (focus rfl); try (focus (first | rfl | (simp [e0, e9]; done)))) | (apply zo; (focus rfl)) | apply gv_u | apply gv_tt | apply gv_ff | apply gv_ft | apply gv_tf))
  (apply zW; (focus ((conv => lhs; simp); first | done | rfl)); (focus exact readMap_runs hr3 (by omega) hby k3s)); intro r h4 q4
  obtain ⟨w4, rfl, k4, r4, l4⟩ := q4
  rw [readMap_eq] at r4 l4 ⊢
  have k4s := k4.1
  have hr4 := hr3.keepB k4 (.inl rfl)
  repeat (first
 | refine za ?_ | refine zb ?_ | refine zc ?_ | refine zd ?_ | refine ze ?_ | refine zf ?_ | refine zg ?_ | refine zh ?_ | (refine zi ?_; try refine RgD_plain rfl ?_) | refine w_drawn rfl ?_ | refine zj ?_ | refine zl ?_
 | ((first | apply zs | (apply zt; (focus rfl)) | (apply zu; (focus rfl)) | (apply zv; (focus rfl)) | apply zx | apply zy | apply zB | apply zC | apply zD | apply zE | apply zF); (focus ((conv => lhs; simp [e0, e9, k3s]); first | done | rfl)); first | apply zk | (apply zn; (focus rfl); try (focus (first | rfl | (simp [e0, e9, k3s]; done)))) | (apply zo; (focus rfl)) | apply gv_u | apply gv_tt | apply gv_ff | apply gv_ft | apply gv_tf))
  have k04 : h.size ≤ h4.size := by omega
  repeat (first
 | refine za ?_ | refine zb ?_ | refine zc ?_ | refine zd ?_ | refine ze ?_ | refine zf ?_ | refine zg ?_ | refine zh ?_ | (refine zi ?_; try refine RgD_plain rfl ?_) | refine w_drawn rfl ?_ | refine zj ?_ | refine zl ?_
 | ((first | apply zs | (apply zt; (focus rfl)) | (apply zu; (focus rfl)) | (apply zv; (focus rfl)) | apply zx | apply zy | apply zB | apply zC | apply zD | apply zE | apply zF); (focus ((conv => lhs; simp [e0, e9, k04]); first | done | rfl)); first | apply zk | (apply zn; (focus rfl); try (focus (first | rfl | (simp [e0, e9, k04]; done)))) | (apply zo; (focus rfl)) | apply gv_u | apply gv_tt | apply gv_ff | apply gv_ft | apply gv_tf))
  refine w_val rfl (bytes_val (by simp [e0]) (hr4.push _)) ?_
  repeat (first
 | refine za ?_ | refine zb ?_ | refine zc ?_ | refine zd ?_ | refine ze ?_ | refine zf ?_ | refine zg ?_ | refine zh ?_ | (refine zi ?_; try refine RgD_plain rfl ?_) | refine w_drawn rfl ?_ | refine zj ?_ | refine zl ?_
 | ((first | apply zs | (apply zt; (focus rfl)) | (apply zu; (focus rfl)) | (apply zv; (focus rfl)) | apply zx | apply zy | apply zB | apply zC | apply zD | apply zE | apply zF); (focus ((conv => lhs; simp [e0, e9, k04]); first | done | rfl)); first | apply zk | (apply zn; (focus rfl); try (focus (first | rfl | (simp [e0, e9, k04]; done)))) | (apply zo; (focus rfl)) | apply gv_u | apply gv_tt | apply gv_ff | apply gv_ft | apply gv_tf))
  (apply zW; (focus ((conv => lhs; simp); first | done | rfl)); (focus exact read_runs (f := h.size) (l := l) (m := true) (by omega) hby (by simp; omega))); intro r h5 q5
  obtain ⟨w5, rfl, k5, r5, l5⟩ := q5
  generalize hp : readP l true = p at *
  obtain ⟨st, ab, z, gs, pat, ok⟩ := p
  simp only at r4 l4 r5 l5 ⊢
  obtain ⟨a4, c4, rfl⟩ := r4.form
  obtain ⟨a5, c5, rfl⟩ := r5.form
  simp only at k5
  have k5s := k5.1
  simp at k5s
  have k05 : h.size ≤ h5.size := by omega
  have n1 : ¬ h4.size = h5.size := by omega
  have hcb : h5.cellsAt h4.size = some [.int .i64 st, .bool ab, .int .i64 z] := by rw [k5.cells (by simp) (by simp)]; simp
  have k45 := (k4.push (.cells [.int .i64 st, .bool ab, .int .i64 z] 30)).trans k5
  have k44 := (((KeepB.refl h4 none).push (.cells [.int .i64 st, .bool ab, .int .i64 z] 30)).trans k5)
  obtain ⟨B, hB⟩ : ∃ B, B = AObj.cells [.bool (true && ok), .int .i64 st, .bool ab, .int .i64 z, .slice a5 gs.length c5] 27 := ⟨_, rfl⟩
  have hsame := same14_runs (f := h.size) ((r4.keepB k44 (.inl rfl)).push B) (r5.push B) l4 l5
  rw [hB] at hsame
  simp only [decide_true, Bool.true_and] at hsame
  cases ok with
  | false =>
    repeat (first
 | refine za ?_ | refine zb ?_ | refine zc ?_ | refine zd ?_ | refine ze ?_ | refine zf ?_ | refine zg ?_ | refine zh ?_ | (refine zi ?_; try refine RgD_plain rfl ?_) | refine w_drawn rfl ?_ | refine zj ?_ | refine zl ?_
 | ((first | apply zs | (apply zt; (focus rfl)) | (apply zu; (focus rfl)) | (apply zv; (focus rfl)) | apply zw | apply zx | apply zy | apply zB | apply zC | apply zD | apply zE | apply zF); (focus ((conv => lhs; simp [e0, e9, k05, n1, hcb]); first | done | rfl)); first | apply zk | (apply zn; (focus rfl); try (focus (first | rfl | (simp [e0, e9, k05, n1, hcb]; done)))) | (apply zo; (focus rfl)) | apply gv_u | apply gv_tt | apply gv_ff | apply gv_ft | apply gv_tf | exact hsame | exact alive_runs))
    generalize hq : (readP l false).ok = q at *
    cases q with
    | false =>
      repeat (first
 | refine za ?_ | refine zb ?_ | refine zc ?_ | refine zd ?_ | refine ze ?_ | refine zf ?_ | refine zg ?_ | refine zh ?_ | (refine zi ?_; try refine RgD_plain rfl ?_) | refine w_drawn rfl ?_ | refine zj ?_ | refine zl ?_
 | ((first | apply zs | (apply zt; (focus rfl)) | (apply zu; (focus rfl)) | (apply zv; (focus rfl)) | apply zx | apply zy | apply zB | apply zC | apply zD | apply zE | apply zF); (focus ((conv => lhs; simp); first | done | rfl)); first | apply zk | (apply zn; (focus rfl); try (focus (first | rfl | (simp; done)))) | (apply zo; (focus rfl)) | apply gv_u | apply gv_tt | apply gv_ff | apply gv_ft | apply gv_tf))
      rfl
    | true =>
      repeat (first
 | refine za ?_ | refine zb ?_ | refine zc ?_ | refine zd ?_ | refine ze ?_ | refine zf ?_ | refine zg ?_ | refine zh ?_ | (refine zi ?_; try refine RgD_plain rfl ?_) | refine w_drawn rfl ?_ | refine zj ?_ | refine zl ?_
 | ((first | apply zs | (apply zt; (focus rfl)) | (apply zu; (focus rfl)) | (apply zv; (focus rfl)) | apply zx | apply zy | apply zB | apply zC | apply zD | apply zE | apply zF); (focus ((conv => lhs; simp); first | done | rfl)); first | apply zk | (apply zn; (focus rfl); try (focus (first | rfl | (simp; done)))) | (apply zo; (focus rfl)) | apply gv_u | apply gv_tt | apply gv_ff | apply gv_ft | apply gv_tf))
      rfl
  | true =>
    obtain ⟨sb1, sb2, sb3, sb4, -⟩ := map_back (l := l) (by rw [hp])
    have hno := not_both (l := l)
    rw [hp] at sb1 sb2 sb3 sb4 hno
    simp only at sb1 sb2 sb3 sb4
    have e9' : env 9 = .bool false := by
      rw [e9]
      cases hq : (readP l false).ok with
      | false => rfl
      | true => exact absurd (hno hq) (by simp)
    repeat (first
 | refine za ?_ | refine zb ?_ | refine zc ?_ | refine zd ?_ | refine ze ?_ | refine zf ?_ | refine zg ?_ | refine zh ?_ | (refine zi ?_; try refine RgD_plain rfl ?_) | refine w_drawn rfl ?_ | refine zj ?_ | refine zl ?_
 | ((first | apply zs | (apply zt; (focus rfl)) | (apply zu; (focus rfl)) | (apply zv; (focus rfl)) | apply zw | apply zx | apply zy | apply zB | apply zC | apply zD | apply zE | apply zF); (focus ((conv => lhs; simp [e0, e9', k05, n1, hcb]); first | done | rfl)); first | apply zk | (apply zn; (focus rfl); try (focus (first | rfl | (simp [e0, e9', k05, n1, hcb]; done)))) | (apply zo; (focus rfl)) | apply gv_u | apply gv_tt | apply gv_ff | apply gv_ft | apply gv_tf | exact hsame | exact alive_runs))
    have hr5 := hr4.keepB (k44.push B) (.inl rfl)
    rw [hB] at hr5
    simp only [Bool.true_and] at hr5
    refine w_val rfl (bytes_val (by simp [e0]) hr5) ?_
    repeat (first
 | refine za ?_ | refine zb ?_ | refine zc ?_ | refine zd ?_ | refine ze ?_ | refine zf ?_ | refine zg ?_ | refine zh ?_ | (refine zi ?_; try refine RgD_plain rfl ?_) | refine w_drawn rfl ?_ | refine zj ?_ | refine zl ?_
 | ((first | apply zs | (apply zt; (focus rfl)) | (apply zu; (focus rfl)) | (apply zv; (focus rfl)) | apply zx | apply zy | apply zB | apply zC | apply zD | apply zE | apply zF); (focus ((conv => lhs; simp [e0, e9', k05, n1, hcb]); first | done | rfl)); first | apply zk | (apply zn; (focus rfl); try (focus (first | rfl | (simp [e0, e9', k05, n1, hcb]; done)))) | (apply zo; (focus rfl)) | apply gv_u | apply gv_tt | apply gv_ff | apply gv_ft | apply gv_tf))
    have r45 := r4.keepB (k44.push B) (.inl rfl)
    rw [hB] at r45
    simp only [Bool.true_and] at r45
    (apply zW; (focus ((conv => lhs; simp); first | done | rfl)); (focus exact map_runs (f := h.size) (st := st) (ab := ab) r45 (by omega) sb2 sb3 (by simp; omega))); intro v6 h6 q6
    obtain ⟨k6, _, r6⟩ := q6
    rw [sb1] at r6
    obtain ⟨a6, c6, rfl⟩ := r6.form
    have hr6 := hr5.keepB k6 (.inl rfl)
    refine w_still ?_ ?_
    · have hbv : ∀ env : Env, env 132 = .slice a l.length c → aVal env h6 (.bytesStr (.t 132)) = some (.string (strB l)) := fun env he => bytes_val (by exact he) hr6
      simp [still, snapped, -aVal, hbv, veq, veq1]
    repeat (first
 | refine za ?_ | refine zb ?_ | refine zc ?_ | refine zd ?_ | refine ze ?_ | refine zf ?_ | refine zg ?_ | refine zh ?_ | (refine zi ?_; try refine RgD_plain rfl ?_) | refine w_drawn rfl ?_ | refine zj ?_ | refine zl ?_
 | ((first | apply zs | (apply zt; (focus rfl)) | (apply zu; (focus rfl)) | (apply zv; (focus rfl)) | apply zx | apply zy | apply zB | apply zC | apply zD | apply zE | apply zF); (focus ((conv => lhs; simp); first | done | rfl)); first | apply zk | (apply zn; (focus rfl); try (focus (first | rfl | (simp; done)))) | (apply zo; (focus rfl)) | apply gv_u | apply gv_tt | apply gv_ff | apply gv_ft | apply gv_tf))
    refine w_val rfl (bytes_val (by simp) r6) ?_
    repeat (first
 | refine za ?_ | refine zb ?_ | refine zc ?_ | refine zd ?_ | refine ze ?_ | refine zf ?_ | refine zg ?_ | refine zh ?_ | (refine zi ?_; try refine RgD_plain rfl ?_) | refine w_drawn rfl ?_ | refine zj ?_ | refine zl ?_
 | ((first | apply zs | (apply zt; (focus rfl)) | (apply zu; (focus rfl)) | (apply zv; (focus rfl)) | apply zx | apply zy | apply zB | apply zC | apply zD | apply zE | apply zF); (focus ((conv => lhs; simp [e9']); first | done | rfl)); first | apply zk | (apply zn; (focus rfl); try (focus (first | rfl | (simp [e9']; done)))) | (apply zo; (focus rfl)) | apply gv_u | apply gv_tt | apply gv_ff | apply gv_ft | apply gv_tf))
    rfl
set_option maxHeartbeats 4000000 in
theorem reads_law {v : Value} {l : List Nat} (hr : BRow h v l) (hby : ∀ b ∈ l, b < 256) : callR X ⟨f, []⟩ 4 [v] h fun r _ => r = .bool true := by
  refine callR_of rfl f4_is ?_
  obtain ⟨a, c, rfl⟩ := hr.form
  by_cases h50 : l.length > 2000
  · have t0 : decide ((2000 : Int) < l.length) = true := by simp; omega
    simp only [f4r0, f4r1, f4r2, f4r3, f4r4, f4r5, f4r6, f4r7, f4r8, f4r9, f4r10, f4r11, f4b]
    repeat (first
 | refine za ?_ | refine zb ?_ | refine zc ?_ | refine zd ?_ | refine ze ?_ | refine zf ?_ | refine zg ?_ | refine zh ?_ | (refine zi ?_; try refine RgD_plain rfl ?_) | refine w_drawn rfl ?_ | refine zj ?_ | refine zl ?_
 | ((first | apply zs | (apply zt; (focus rfl)) | (apply zu; (focus rfl)) | (apply zv; (focus rfl)) | apply zw | apply zx | apply zy | apply zB | apply zC | apply zD | apply zE | apply zF); (focus ((conv => lhs; simp [t0]); first | done | rfl)); first | apply zk | (apply zn; (focus rfl); try (focus (first | rfl | (simp [t0]; done)))) | (apply zo; (focus rfl)) | apply gv_u | apply gv_tt | apply gv_ff | apply gv_ft | apply gv_tf | exact alive_runs))
    rfl
  · have t0 : decide ((2000 : Int) < l.length) = false := by simp; omega
    simp only [f4b]
    generalize hR : (ACode.seq (.reg f4r7) _) = REST
    have hrest : ∀ (env : Env) (h3 : Heap), env 0 = .slice a l.length c → env 9 = .bool (readP l false).ok → KeepB h h3 none →
        Ok X (Flag.pure.ctx ⟨f, []⟩ h.size) REST env h3 (EndsR [ARes.tmp 2] Flag.pure h fun r x => r = Value.bool true) := by
      subst hR
      intro env h3 e0 e9 k3
      exact rest_runs rfl hr hby (by omega) e0 e9 k3
    simp only [f4r0, f4r1, f4r2, f4r3, f4r4, f4r5, f4r6, f4r7, f4r8, f4r9, f4r10, f4r11, f4b]
    repeat (first
 | refine za ?_ | refine zb ?_ | refine zc ?_ | refine zd ?_ | refine ze ?_ | refine zf ?_ | refine zg ?_ | refine zh ?_ | (refine zi ?_; try refine RgD_plain rfl ?_) | refine w_drawn rfl ?_ | refine zj ?_ | refine zl ?_
 | ((first | apply zs | (apply zt; (focus rfl)) | (apply zu; (focus rfl)) | (apply zv; (focus rfl)) | apply zx | apply zy | apply zB | apply zC | apply zD | apply zE | apply zF); (focus ((conv => lhs; simp [t0]); first | done | rfl)); first | apply zk | (apply zn; (focus rfl); try (focus (first | rfl | (simp [t0]; done)))) | (apply zo; (focus rfl)) | apply gv_u | apply gv_tt | apply gv_ff | apply gv_ft | apply gv_tf))
    (apply zW; (focus ((conv => lhs; simp); first | done | rfl)); (focus exact readSet_runs hr (by omega) hby (Nat.le_refl _))); intro r h1 q1
    obtain ⟨w1, rfl, k1, r1, l1⟩ := q1
    rw [readSet_eq] at r1 l1 ⊢
    have hr1 := hr.keepB k1 (.inl rfl)
    have k1s := k1.1
    repeat (first
 | refine za ?_ | refine zb ?_ | refine zc ?_ | refine zd ?_ | refine ze ?_ | refine zf ?_ | refine zg ?_ | refine zh ?_ | (refine zi ?_; try refine RgD_plain rfl ?_) | refine w_drawn rfl ?_ | refine zj ?_ | refine zl ?_
 | ((first | apply zs | (apply zt; (focus rfl)) | (apply zu; (focus rfl)) | (apply zv; (focus rfl)) | apply zx | apply zy | apply zB | apply zC | apply zD | apply zE | apply zF); (focus ((conv => lhs; simp); first | done | rfl)); first | apply zk | (apply zn; (focus rfl); try (focus (first | rfl | (simp; done)))) | (apply zo; (focus rfl)) | apply gv_u | apply gv_tt | apply gv_ff | apply gv_ft | apply gv_tf))
    refine w_val rfl (bytes_val (by simp) hr1) ?_
    repeat (first
 | refine za ?_ | refine zb ?_ | refine zc ?_ | refine zd ?_ | refine ze ?_ | refine zf ?_ | refine zg ?_ | refine zh ?_ | (refine zi ?_; try refine RgD_plain rfl ?_) | refine w_drawn rfl ?_ | refine zj ?_ | refine zl ?_
 | ((first | apply zs | (apply zt; (focus rfl)) | (apply zu; (focus rfl)) | (apply zv; (focus rfl)) | apply zx | apply zy | apply zB | apply zC | apply zD | apply zE | apply zF); (focus ((conv => lhs; simp); first | done | rfl)); first | apply zk | (apply zn; (focus rfl); try (focus (first | rfl | (simp; done)))) | (apply zo; (focus rfl)) | apply gv_u | apply gv_tt | apply gv_ff | apply gv_ft | apply gv_tf))
    (apply zW; (focus ((conv => lhs; simp); first | done | rfl)); (focus exact read_runs (l := l) (m := false) (by omega) hby (by omega))); intro r h2 q2
    obtain ⟨w2, rfl, k2, r2, l2⟩ := q2
    generalize hp : readP l false = p at *
    obtain ⟨st, ab, z, gs, pat, ok⟩ := p
    simp only at r1 l1 r2 l2 ⊢
    obtain ⟨a2, c2, rfl⟩ := r2.form
    obtain ⟨a1, c1, rfl⟩ := r1.form
    have k2s := k2.1
    have k02 : h.size ≤ h2.size := by omega
    have hL : (gs.map (·.s)).length ≤ 100000 := by simpa using l1
    have r1b : SRow h1 (.slice a1 (gs.map (·.s)).length c1) (gs.map (·.s)) := r1
    cases ok with
    | false =>
      repeat (first
 | refine za ?_ | refine zb ?_ | refine zc ?_ | refine zd ?_ | refine ze ?_ | refine zf ?_ | refine zg ?_ | refine zh ?_ | (refine zi ?_; try refine RgD_plain rfl ?_) | refine w_drawn rfl ?_ | refine zj ?_ | refine zl ?_
 | ((first | apply zs | (apply zt; (focus rfl)) | (apply zu; (focus rfl)) | (apply zv; (focus rfl)) | apply zx | apply zy | apply zB | apply zC | apply zD | apply zE | apply zF); (focus ((conv => lhs; simp [k02]); first | done | rfl)); first | apply zk | (apply zn; (focus rfl); try (focus (first | rfl | (simp [k02]; done)))) | (apply zo; (focus rfl)) | apply gv_u | apply gv_tt | apply gv_ff | apply gv_ft | apply gv_tf))
      (apply zW; (focus ((conv => lhs; simp); first | done | rfl)); (focus exact spans_runs (f := h.size) (r2.push _) l2 (by simp; omega))); intro v3 h3 q3
      obtain ⟨k3, _, r3⟩ := q3
      have k3s := k3.1
      simp at k3s
      have hcb : h3.cellsAt h2.size = some [.bool false, .int .i64 st, .bool ab, .int .i64 z, .slice a2 gs.length c2] := by rw [k3.cells (by simp) (by simp)]; simp
      have hsame := same_runs (f := h.size) ((r1b.keepB (k2.push _) (.inl rfl)).keepB k3 (.inl rfl)) r3 hL hL
      simp only [decide_true, List.length_map] at hsame
      repeat (first
 | refine za ?_ | refine zb ?_ | refine zc ?_ | refine zd ?_ | refine ze ?_ | refine zf ?_ | refine zg ?_ | refine zh ?_ | (refine zi ?_; try refine RgD_plain rfl ?_) | refine w_drawn rfl ?_ | refine zj ?_ | refine zl ?_
 | ((first | apply zs | (apply zt; (focus rfl)) | (apply zu; (focus rfl)) | (apply zv; (focus rfl)) | apply zw | apply zx | apply zy | apply zB | apply zC | apply zD | apply zE | apply zF); (focus ((conv => lhs; simp [hcb]); first | done | rfl)); first | apply zk | (apply zn; (focus rfl); try (focus (first | rfl | (simp [hcb]; done)))) | (apply zo; (focus rfl)) | apply gv_u | apply gv_tt | apply gv_ff | apply gv_ft | apply gv_tf | exact hsame))
      refine hrest _ _ ?_ ?_ (((k1.trans k2).push _).trans k3)
      all_goals simp [hp]
    | true =>
      repeat (first
 | refine za ?_ | refine zb ?_ | refine zc ?_ | refine zd ?_ | refine ze ?_ | refine zf ?_ | refine zg ?_ | refine zh ?_ | (refine zi ?_; try refine RgD_plain rfl ?_) | refine w_drawn rfl ?_ | refine zj ?_ | refine zl ?_
 | ((first | apply zs | (apply zt; (focus rfl)) | (apply zu; (focus rfl)) | (apply zv; (focus rfl)) | apply zx | apply zy | apply zB | apply zC | apply zD | apply zE | apply zF); (focus ((conv => lhs; simp [k02]); first | done | rfl)); first | apply zk | (apply zn; (focus rfl); try (focus (first | rfl | (simp [k02]; done)))) | (apply zo; (focus rfl)) | apply gv_u | apply gv_tt | apply gv_ff | apply gv_ft | apply gv_tf))
      (apply zW; (focus ((conv => lhs; simp); first | done | rfl)); (focus exact spans_runs (f := h.size) (r2.push _) l2 (by simp; omega))); intro v3 h3 q3
      obtain ⟨k3, _, r3⟩ := q3
      have k3s := k3.1
      simp at k3s
      have hcb : h3.cellsAt h2.size = some [.bool false, .int .i64 st, .bool ab, .int .i64 z, .slice a2 gs.length c2] := by rw [k3.cells (by simp) (by simp)]; simp
      have hsame := same_runs (f := h.size) ((r1b.keepB (k2.push _) (.inl rfl)).keepB k3 (.inl rfl)) r3 hL hL
      simp only [decide_true, List.length_map] at hsame
      have k13 : KeepB h h3 none := ((k1.trans k2).push _).trans k3
      have hr3 := hr.keepB k13 (.inl rfl)
      obtain ⟨sb1, sb2, sb3, -⟩ := set_back (l := l) (by rw [hp])
      rw [hp] at sb1 sb2 sb3
      simp only at sb1 sb2 sb3
      repeat (first
 | refine za ?_ | refine zb ?_ | refine zc ?_ | refine zd ?_ | refine ze ?_ | refine zf ?_ | refine zg ?_ | refine zh ?_ | (refine zi ?_; try refine RgD_plain rfl ?_) | refine w_drawn rfl ?_ | refine zj ?_ | refine zl ?_
 | ((first | apply zs | (apply zt; (focus rfl)) | (apply zu; (focus rfl)) | (apply zv; (focus rfl)) | apply zw | apply zx | apply zy | apply zB | apply zC | apply zD | apply zE | apply zF); (focus ((conv => lhs; simp [hcb]); first | done | rfl)); first | apply zk | (apply zn; (focus rfl); try (focus (first | rfl | (simp [hcb]; done)))) | (apply zo; (focus rfl)) | apply gv_u | apply gv_tt | apply gv_ff | apply gv_ft | apply gv_tf | exact hsame))
      refine w_val rfl (bytes_val (by simp) hr3) ?_
      repeat (first
 | refine za ?_ | refine zb ?_ | refine zc ?_ | refine zd ?_ | refine ze ?_ | refine zf ?_ | refine zg ?_ | refine zh ?_ | (refine zi ?_; try refine RgD_plain rfl ?_) | refine w_drawn rfl ?_ | refine zj ?_ | refine zl ?_
 | ((first | apply zs | (apply zt; (focus rfl)) | (apply zu; (focus rfl)) | (apply zv; (focus rfl)) | apply zx | apply zy | apply zB | apply zC | apply zD | apply zE | apply zF); (focus ((conv => lhs; simp); first | done | rfl)); first | apply zk | (apply zn; (focus rfl); try (focus (first | rfl | (simp; done)))) | (apply zo; (focus rfl)) | apply gv_u | apply gv_tt | apply gv_ff | apply gv_ft | apply gv_tf))
      have r1c : SRow h3 (.slice a1 (gs.map (·.s)).length c1) (gs.map (·.s)) := (r1b.keepB (k2.push _) (.inl rfl)).keepB k3 (.inl rfl)
      have elen : (gs.map (·.s)).length = gs.length := List.length_map _
      rw [elen] at r1c
      (apply zW; (focus ((conv => lhs; simp); first | done | rfl)); (focus exact set_runs (f := h.size) (st := st) r1c (by simp; omega) sb2 (by omega))); intro v4 h4 q4
      obtain ⟨k4, _, r4⟩ := q4
      rw [sb1] at r4
      obtain ⟨a4, c4, rfl⟩ := r4.form
      have hr4 := hr3.keepB k4 (.inl rfl)
      refine w_still ?_ ?_
      · have hbv : ∀ env : Env, env 74 = .slice a l.length c → aVal env h4 (.bytesStr (.t 74)) = some (.string (strB l)) := fun env he => bytes_val (by exact he) hr4
        simp [still, snapped, -aVal, hbv, veq, veq1]
      repeat (first
 | refine za ?_ | refine zb ?_ | refine zc ?_ | refine zd ?_ | refine ze ?_ | refine zf ?_ | refine zg ?_ | refine zh ?_ | (refine zi ?_; try refine RgD_plain rfl ?_) | refine w_drawn rfl ?_ | refine zj ?_ | refine zl ?_
 | ((first | apply zs | (apply zt; (focus rfl)) | (apply zu; (focus rfl)) | (apply zv; (focus rfl)) | apply zx | apply zy | apply zB | apply zC | apply zD | apply zE | apply zF); (focus ((conv => lhs; simp); first | done | rfl)); first | apply zk | (apply zn; (focus rfl); try (focus (first | rfl | (simp; done)))) | (apply zo; (focus rfl)) | apply gv_u | apply gv_tt | apply gv_ff | apply gv_ft | apply gv_tf))
      refine w_val rfl (bytes_val (by simp) r4) ?_
      repeat (first
 | refine za ?_ | refine zb ?_ | refine zc ?_ | refine zd ?_ | refine ze ?_ | refine zf ?_ | refine zg ?_ | refine zh ?_ | (refine zi ?_; try refine RgD_plain rfl ?_) | refine w_drawn rfl ?_ | refine zj ?_ | refine zl ?_
 | ((first | apply zs | (apply zt; (focus rfl)) | (apply zu; (focus rfl)) | (apply zv; (focus rfl)) | apply zx | apply zy | apply zB | apply zC | apply zD | apply zE | apply zF); (focus ((conv => lhs; simp); first | done | rfl)); first | apply zk | (apply zn; (focus rfl); try (focus (first | rfl | (simp; done)))) | (apply zo; (focus rfl)) | apply gv_u | apply gv_tt | apply gv_ff | apply gv_ft | apply gv_tf))
      refine hrest _ _ ?_ ?_ (k13.trans k4)
      all_goals simp [hp]
end Go.Proofs.YtmjaanhphkbkeaaGreat
end
