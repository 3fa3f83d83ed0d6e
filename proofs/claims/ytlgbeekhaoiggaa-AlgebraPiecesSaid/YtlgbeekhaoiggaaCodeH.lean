import Derived.Test.YtlgbeekhaoiggaaCodeG
set_option linter.all false
section
namespace Go.Proofs.Ytlgbeekhaoiggaa
open Go.AM Go.Sort
set_option maxHeartbeats 4000000
variable {f : Nat} {h : Heap}
theorem clone_R {v : Value} {xs : List Sp} (hr : SRow h v xs) (hl : xs.length ≤ 100000) : callR Xq ⟨f, []⟩ 126 [v] h fun w h' => Buf h.size h' 46 4 w (elems spC xs) ∧ Low h.size h h' := by
  refine callPo rfl f126_is fun RR hRR => ?_
  obtain ⟨a, c, rfl⟩ := hr.form
  cases a with
  | none =>
    have h0 : xs.length = 0 ∧ c = 0 := by
      rcases hr.ex with ⟨q, q2, _⟩ | ⟨b, o, c', q, _⟩
      · injection q with _ _ qc; exact ⟨q2, qc⟩
      · cases q
    obtain rfl := List.eq_nil_of_length_eq_zero h0.1
    simp (disch := first | omega | decide | with_unfolding_all rfl)
    exact hRR _ _ ⟨.inl ⟨rfl, rfl⟩, .refl _ _⟩
  | some a =>
    simp (disch := first | omega | decide | with_unfolding_all rfl)
    have l0 := Low.push (Nat.le_refl h.size) (.cells [] 46)
    refine RM_bapp (n := 0) (m := xs.length) .new rfl (by omega) (Nat.le_refl _) (by simp) (hr.low l0 (Nat.le_refl _)).src (by rw [elems_len spC_len]) (sp_one xs) (by simp) (by omega) (by omega) fun w1 h1 b1 l1 => ?_
    simp
    obtain ⟨w', h3, q1, q2, q3, q4⟩ := finish_buf (f := h.size) (n := xs.length) b1 (by omega) (by rw [List.nil_append, elems_len spC_len]) (Nat.le_refl _) (all_below_ints (elems_ints spC_ints _))
    exact (RQ_fin q1 (by simp)).2 (hRR _ _ ⟨q3, q2.low⟩)
theorem blk_rowV {h : Heap} {e n : Nat} {l : List Value} (hl : n ≠ 0 → 0 < l.length) : ∀ b, Go.AM.blk (rowV h.size n) = some b → h.size ≤ b ∧ b < (pushR h e l).size := by
  intro b q
  unfold rowV at q
  split at q
  · cases q
  · rename_i hn
    simp only [Go.AM.blk, Option.some.injEq] at q
    have := hl hn
    rw [size_pushR]; omega
def pieceA (xs ys : List Sp) (cs : List (Int × Int)) (k : Nat) : List Value :=
  [.agg #[.int .i64 (nth cs k).1, .int .i64 (nth cs k).2, .int .i64 (nth cs (k + 1)).1, .int .i64 (nth cs (k + 1)).2], .agg #[.bool (hasL xs (keyC (nth cs k))), .bool (hasL ys (keyC (nth cs k)))]]
theorem FrontP.up {ys : List Sp} {k k' : Int} {a : Nat} (p : FrontP ys k a) (h : k ≤ k') : FrontP ys k' a := ⟨p.le, fun i hi => Int.le_trans (p.past i hi) h⟩
theorem hasL_list {xs : List Sp} (hx : ∀ x ∈ xs, okP x) (n : Int) : hasL (listW xs) n = hasL xs n := by
  have := (listW_ok hx).2.2 n
  rw [← hasL_iff, ← hasL_iff] at this
  cases h1 : hasL (listW xs) n <;> cases h2 : hasL xs n <;> simp_all
theorem pieces_iter {x1 x2 : Nat} {va vb : Value} {xs ys : List Sp} (h1 : h[x1]? = some (.cells [va] 23)) (h2 : h[x2]? = some (.cells [vb] 23)) (hr : SRow h va xs) (hu : SRow h vb ys) (hl : xs.length + ys.length ≤ 400) (hx : ∀ x ∈ xs, okP x) (hy : ∀ x ∈ ys, okP x) (hf : f ≤ h.size) :
    IterOK Xq ⟨f, []⟩ 125 [] [.pointer (some ⟨x1, 0, none⟩), .pointer (some ⟨x2, 0, none⟩)] h (fun b => b = x1 ∨ b = x2 ∨ (0 < xs.length ∧ b = bkV va) ∨ (0 < ys.length ∧ b = bkV vb)) ((riseL (cutsOf (xs ++ ys))).length - 1) (pieceA xs ys (riseL (cutsOf (xs ++ ys)))) := by
  intro L W I J hW bod i0
  refine callLo rfl f125_is fun RR hRR => ?_
  have c1 := cellsB h1
  have c2 := cellsB h2
  have t1 := ltB h1
  have t2 := ltB h2
  simp (disch := first | omega | decide | with_unfolding_all rfl) [c1, c2]
  refine RF_by (clone_R hr (by omega)) fun w3 h3 ⟨b3, l3⟩ => ?_
  have c23 : h3.cellsAt x2 = some [vb] := by rw [l3.c t2]; exact c2
  obtain ⟨avb, cvb, rfl⟩ := hu.form
  simp (disch := first | omega | decide | with_unfolding_all rfl) [c23]
  obtain ⟨ava, cva, rfl⟩ := hr.form
  have s3 := l3.1
  refine RM_bapp (n := xs.length) (m := ys.length) b3 (sp_one xs) (by omega) hf s3 (hu.low l3 (Nat.le_refl _)).src (by rw [elems_len spC_len]) (sp_one ys) (by rw [elems_len spC_len]) (by omega) (by omega) fun w4 h4 b4 l4 => ?_
  replace l4 := l3.trans l4
  have s4 := l4.1
  rw [← elems_append] at b4
  have hxy := ok_app hx hy
  have hcl := cutsOf_len (xs ++ ys)
  obtain ⟨hcs, hcm, hcn⟩ := riseL_ok (cutsOf_ok hxy)
  rw [List.length_append] at hcl
  simp (disch := first | omega | decide | with_unfolding_all rfl)
  refine RF_by (algCuts_R (b4.rowE spC_len (by omega)) (by simp; omega) hxy) fun vc h5 ⟨n5, l5⟩ => ?_
  replace l5 := l4.up l5 s4
  have s5 := l5.1
  have c15 : h5.cellsAt x1 = some [.slice ava xs.length cva] := by rw [l5.c t1]; exact c1
  have c25 : h5.cellsAt x2 = some [.slice avb ys.length cvb] := by rw [l5.c t2]; exact c2
  have hr5 := hr.low l5 (Nat.le_refl _)
  simp (disch := first | omega | decide | with_unfolding_all rfl) [c15, c25, RF_of (spanList_runs hr5 (by omega) hx)]
  have lxo := listW_ok hx
  have lyo := listW_ok hy
  have lxn := listW_len xs hx
  have lyn := listW_len ys hy
  have hxk := hasL_list hx
  have hyk := hasL_list hy
  have hv1 := row_pushR (h := h5) (e := 46) (xs := listW xs) spC_len (by omega)
  have l6 := l5.up (low_pushR (Nat.le_refl h5.size) 46 (elems spC (listW xs))) s5
  generalize hlx : listW xs = lx at *
  generalize hly : listW ys = ly at *
  have hbk1 := blk_rowV (h := h5) (e := 46) (n := lx.length) (l := elems spC lx) (fun q => by rw [elems_len spC_len]; omega)
  have b1lt : 0 < lx.length → bkV (rowV h5.size lx.length) = h5.size := fun q => by unfold rowV; rw [if_neg (by omega)]; rfl
  have c65 : ∀ b, b < h5.size → (pushR h5 46 (elems spC lx)).cellsAt b = h5.cellsAt b := fun b hb => cellsAt_pushR hb
  have hs6 : (pushR h5 46 (elems spC lx)).size = h5.size + min (elems spC lx).length 1 := size_pushR
  have n56 : Low h5.size h5 (pushR h5 46 (elems spC lx)) := low_pushR (Nat.le_refl _) _ _
  generalize rowV h5.size lx.length = v1 at *
  generalize pushR h5 46 (elems spC lx) = h6 at *
  obtain ⟨av1, cv1, rfl⟩ := hv1.form
  have s6 := l6.1
  have c26 : h6.cellsAt x2 = some [.slice avb ys.length cvb] := by rw [c65 _ (by omega)]; exact c25
  have hu6 := hu.low l6 (Nat.le_refl _)
  have hu7 := hu6.push (.cells [.slice av1 lx.length cv1, .int .i64 0] 139)
  simp (disch := first | omega | decide | with_unfolding_all rfl) [c26, RF_of (spanList_runs hu7 (by omega) hy), hly]
  have l7 := l6.pushR (Nat.le_refl _) (.cells [.slice av1 lx.length cv1, .int .i64 0] 139)
  have hv2 := row_pushR (h := h6.push (.cells [.slice av1 lx.length cv1, .int .i64 0] 139)) (e := 46) (xs := ly) spC_len (by omega)
  have n78 := low_pushR (Nat.le_refl (h6.push (.cells [.slice av1 lx.length cv1, .int .i64 0] 139)).size) 46 (elems spC ly)
  have b2lt : 0 < ly.length → bkV (rowV (h6.push (.cells [.slice av1 lx.length cv1, .int .i64 0] 139)).size ly.length) = (h6.push (.cells [.slice av1 lx.length cv1, .int .i64 0] 139)).size := fun q => by unfold rowV; rw [if_neg (by omega)]; rfl
  have hsz7 : (h6.push (.cells [.slice av1 lx.length cv1, .int .i64 0] 139)).size = h6.size + 1 := by simp
  have hc7 : (h6.push (.cells [.slice av1 lx.length cv1, .int .i64 0] 139))[h6.size]? = some (.cells [.slice av1 lx.length cv1, .int .i64 0] 139) := by simp
  have n67 : Low h6.size h6 (h6.push (.cells [.slice av1 lx.length cv1, .int .i64 0] 139)) := .push (Nat.le_refl _) _
  have hbk2 := blk_rowV (h := h6.push (.cells [.slice av1 lx.length cv1, .int .i64 0] 139)) (e := 46) (n := ly.length) (l := elems spC ly) (fun q => by rw [elems_len spC_len]; omega)
  rw [hsz7] at hv2 n78 b2lt hbk2
  try simp only [hsz7]
  generalize h6.push (.cells [.slice av1 lx.length cv1, .int .i64 0] 139) = h7 at *
  have n68 := n67.trans (n78.weak (Nat.le_succ _))
  have l8 := l6.up n68 s6
  have n58 := n56.up n68 n56.1
  have hf1 : (pushR h7 46 (elems spC ly))[h6.size]? = some (.cells [.slice av1 lx.length cv1, .int .i64 0] 139) := by rw [n78.2 _ (by omega)]; exact hc7
  generalize rowV (h6.size + 1) ly.length = v2 at *
  generalize pushR h7 46 (elems spC ly) = h8 at *
  obtain ⟨av2, cv2, rfl⟩ := hv2.form
  have s8 := l8.1
  have s68 := n68.1
  simp (disch := first | omega | decide | with_unfolding_all rfl)
  have hB1 : (h8.push (.cells [.slice av2 ly.length cv2, .int .i64 0] 139))[h6.size]? = some (.cells [.slice av1 lx.length cv1, .int .i64 0] 139) := by
    rw [Array.getElem?_push, if_neg (by have := ltB hf1; omega)]; exact hf1
  have hB2 : (h8.push (.cells [.slice av2 ly.length cv2, .int .i64 0] 139))[h8.size]? = some (.cells [.slice av2 ly.length cv2, .int .i64 0] 139) := by simp
  have l9 := l8.pushR (Nat.le_refl _) (.cells [.slice av2 ly.length cv2, .int .i64 0] 139)
  have rc9 : CRow (h8.push (.cells [.slice av2 ly.length cv2, .int .i64 0] 139)) vc (riseL (cutsOf (xs ++ ys))) := ((n5.row cuC_len (by omega)).low n58 (Nat.le_refl _)).push _
  have r19 : SRow (h8.push (.cells [.slice av2 ly.length cv2, .int .i64 0] 139)) (.slice av1 lx.length cv1) lx := (hv1.low n68 (Nat.le_refl _)).push _
  have r29 : SRow (h8.push (.cells [.slice av2 ly.length cv2, .int .i64 0] 139)) (.slice av2 ly.length cv2) ly := hv2.push _
  have hcb : 0 < (riseL (cutsOf (xs ++ ys))).length → h4.size ≤ bkV vc ∧ bkV vc < h5.size := fun q => by
    rcases n5.ex with ⟨q1, _⟩ | ⟨b, n, c, r, rfl, _, _, q3, q4, _⟩
    · have := elems_len cuC_len (riseL (cutsOf (xs ++ ys))); rw [q1] at this; simp at this; omega
    · exact ⟨q4, ltB q3⟩
  have s66 := hs6
  have hs1 : bkV (.slice av1 lx.length cv1) < h6.size ∨ lx.length = 0 := by
    by_cases q : 0 < lx.length
    · left; have := (hv1.lt q); exact this
    · omega
  have hlt8 : h6.size < h8.size := ltB hf1
  generalize hcsd : riseL (cutsOf (xs ++ ys)) = cs at *
  have hs9 : (h8.push (.cells [.slice av2 ly.length cv2, .int .i64 0] 139)).size = h8.size + 1 := by simp
  generalize h8.push (.cells [.slice av2 ly.length cv2, .int .i64 0] 139) = h9 at *
  have hRc := rc9.R cuC_len
  have I0 : I 0 [] h9 := bod.keep _ _ _ _ i0 l9.1 (fun b hb _ => l9.2 b hb)
  obtain ⟨M, hM⟩ : ∃ M : Nat × Nat × Nat × List Nat → Env → Heap → Prop, M = fun x e h' => e 7 = .int .i64 ((x.1 : Nat) + 1) ∧ x.1 ≤ cs.length - 1 ∧ I x.1 x.2.2.2 h' ∧ (∀ b ∈ x.2.2.2, h9.size ≤ b) ∧ h9.size ≤ h'.size ∧ (∀ b, b < h9.size → b ∉ W → b ≠ h6.size → b ≠ h8.size → h'[b]? = h9[b]?) ∧
      h'[h6.size]? = some (.cells [.slice av1 lx.length cv1, .int .i64 (x.2.1 : Nat)] 139) ∧ h'[h8.size]? = some (.cells [.slice av2 ly.length cv2, .int .i64 (x.2.2.1 : Nat)] 139) ∧ (x.1 < cs.length → FrontP lx (keyC (nth cs x.1)) x.2.1 ∧ FrontP ly (keyC (nth cs x.1)) x.2.2.1) := ⟨_, rfl⟩
  refine Run_while xlow [22, 23, 24, 25, 28, 29, 30, 31, 32, 33, 34, 35, 36, 37, 8, 38, 39, 40, 41, 42, 43, 44, 45, 46, 47, 48, 49, 50, 26, 27, 7] (by omega) M (fun x => cs.length - x.1) (0, 0, 0, []) rfl (hM ▸ ⟨by simp, by simp, I0, by simp, Nat.le_refl _, fun _ _ _ _ _ => rfl, hB1, hB2, fun _ => ⟨⟨by simp, by simp⟩, ⟨by simp, by simp⟩⟩⟩) ?_
  rintro ⟨k, a1, a2, B⟩ e h' m0 ke _
  rw [hM] at m0
  obtain ⟨e7, hk, Ik, hBs, hsz, hkeep, g1, g2, hfr⟩ := m0
  simp only at e7 hk Ik hBs g1 g2 hfr
  have e0 : e 0 = .func (.yield L) #[] #[] := by rw [ke 0 (by decide)]; simp
  have e4 : e 4 = vc := by rw [ke 4 (by decide)]; simp
  have e5 : e 5 = .pointer (some ⟨h6.size, 0, none⟩) := by rw [ke 5 (by decide)]; simp
  have e6 : e 6 = .pointer (some ⟨h8.size, 0, none⟩) := by rw [ke 6 (by decide)]; simp
  clear ke
  by_cases hlt : k + 1 < cs.length
  · have hcb' := hcb (by omega)
    have hWl : ∀ b, h.size ≤ b → b ∉ W := fun b hb q => by have := (hW b q).1; omega
    have hcc : h'.cellsAt (bkV vc) = some (clV h9 vc) := by
      rw [← hRc.2.2.1 (by omega)]; unfold Heap.cellsAt
      rw [hkeep _ (by omega) (hWl _ (by omega)) (by omega) (by omega)]
    have hb1 := ltB g1
    have hb2 := ltB g2
    have hlk : keyC (nth cs k) ≤ keyC (nth cs (k + 1)) := by
      have := List.pairwise_iff_getElem.1 hcs.up k (k + 1) (by omega) hlt (by omega)
      rw [nth_of (List.getElem?_eq_getElem (show k < cs.length by omega)), nth_of (List.getElem?_eq_getElem hlt)]; omega
    have hok := (hcs.ok _ (nth_mem (show k < cs.length by omega))).1
    obtain ⟨f1, f2⟩ := hfr (by omega)
    have hi1 : ((k : Int) + 1 - 1) = (k : Int) := by omega
    simp (disch := first | omega | decide | with_unfolding_all rfl) [e0, e4, e5, e6, e7, hRc, hcc, hlt, cuC, hi1]
    generalize hA : h'.push (.cells [.int .i64 (nth cs k).1, .int .i64 (nth cs k).2, .int .i64 (nth cs (k + 1)).1, .int .i64 (nth cs (k + 1)).2] 46) = hp at *
    have zA : hp.size = h'.size + 1 := by rw [← hA]; simp
    have kA : Low h'.size h' hp := by rw [← hA]; exact .push (Nat.le_refl _) _
    have cA : hp[h'.size]? = some (.cells [.int .i64 (nth cs k).1, .int .i64 (nth cs k).2, .int .i64 (nth cs (k + 1)).1, .int .i64 (nth cs (k + 1)).2] 46) := by rw [← hA]; simp
    have kp : ∀ b, b < h9.size → b ∉ W → b ≠ h6.size → b ≠ h8.size → hp[b]? = h9[b]? := fun b q1 q2 q3 q4 => by rw [kA.2 b (by omega)]; exact hkeep b q1 q2 q3 q4
    have r1A : SRow hp (.slice av1 lx.length cv1) lx := r19.keep (fun b q => kp b (r19.blt q) (hWl b (by have := hbk1 b q; omega)) (by have := hbk1 b q; omega) (by have := hbk1 b q; omega)) (by omega)
    have n1 : ∀ (b : Nat), 0 < lx.length → bkV (.slice av1 lx.length cv1) = b → b < h6.size := fun b q q2 => by have := hs1; omega
    refine RF_by (has_R (T := 139) (by rw [kA.2 _ hb1]; exact g1) r1A (fun q => by have := n1 _ q rfl; omega) (by omega) (by omega) lxo.1 hok lxo.2.1 f1) fun _ h10 ⟨hv1', k10, a1', g10, f10⟩ => ?_
    subst hv1'
    have z10 := k10.1
    have c10 : h10.cellsAt h'.size = some [.int .i64 (nth cs k).1, .int .i64 (nth cs k).2, .int .i64 (nth cs (k + 1)).1, .int .i64 (nth cs (k + 1)).2] := by
      rw [k10.cells (by omega) (by intro q; injection q with q; omega)]; exact cellsB cA
    simp (disch := first | omega | decide | with_unfolding_all rfl) [e0, e5, e6, c10]
    have k10' : ∀ b, b < hp.size → b ≠ h6.size → h10[b]? = hp[b]? := fun b q1 q2 => k10.2 b q1 (by intro q; injection q with q; omega)
    have r2B : SRow h10 (.slice av2 ly.length cv2) ly := r29.keep (fun b q => by
      have q1 := r29.blt q
      have := hbk2 b q
      rw [k10' b (by omega) (by omega)]; exact kp b q1 (hWl b (by omega)) (by omega) (by omega)) (by omega)
    have n2 : 0 < ly.length → bkV (.slice av2 ly.length cv2) ≠ h8.size := fun q => by have := hv2.lt q; omega
    refine RF_by (has_R (T := 139) (by rw [k10' _ (by omega) (by omega), kA.2 _ hb2]; exact g2) r2B n2 (by omega) (by omega) lyo.1 hok lyo.2.1 f2) fun _ h11 ⟨hv2', k11, a2', g11, f11⟩ => ?_
    subst hv2'
    have z11 := k11.1
    have k11' : ∀ b, b < h10.size → b ≠ h8.size → h11[b]? = h10[b]? := fun b q1 q2 => k11.2 b q1 (by intro q; injection q with q; omega)
    have c11 : h11.cellsAt h'.size = some [.int .i64 (nth cs k).1, .int .i64 (nth cs k).2, .int .i64 (nth cs (k + 1)).1, .int .i64 (nth cs (k + 1)).2] := by
      rw [k11.cells (by omega) (by intro q; injection q with q; omega)]; exact c10
    have g1' : h11[h6.size]? = some (.cells [.slice av1 lx.length cv1, .int .i64 a1'] 139) := by rw [k11' _ (by omega) (by omega)]; exact g10
    have all11 : ∀ b, b < h'.size → b ≠ h6.size → b ≠ h8.size → h11[b]? = h'[b]? := fun b q1 q2 q3 => by rw [k11' b (by omega) q3, k10' b (by omega) q2, kA.2 b q1]
    have Ik' : I k B h11 := bod.keep _ _ _ _ Ik (by omega) (fun b hb q => all11 b hb (by rcases q with q | q; omega; have := hBs b q; omega) (by rcases q with q | q; omega; have := hBs b q; omega))
    simp (disch := first | omega | decide | with_unfolding_all rfl) [e0, e5, e6, c11]
    obtain ⟨v, h12, B', rv, z12, k12, hB', hres⟩ := bod.step k B h11 (by omega) Ik' (by omega)
    have hBlt := bod.lt _ _ _ Ik'
    have hBn : ∀ b, b < h9.size → b ∉ B := fun b hb q => by have := hBs b q; omega
    have hargs : pieceA xs ys cs k = [.agg #[.int .i64 (nth cs k).1, .int .i64 (nth cs k).2, .int .i64 (nth cs (k + 1)).1, .int .i64 (nth cs (k + 1)).2], .agg #[.bool (hasL lx (keyC (nth cs k))), .bool (hasL ly (keyC (nth cs k)))]] := by
      unfold pieceA; rw [hxk, hyk]
    rw [hargs] at rv
    refine RCall_by rv ?_
    have c12 : h12.cellsAt h'.size = some [.int .i64 (nth cs k).1, .int .i64 (nth cs k).2, .int .i64 (nth cs (k + 1)).1, .int .i64 (nth cs (k + 1)).2] := by
      unfold Heap.cellsAt
      rw [k12 _ (by omega) (hWl _ (by omega)) (fun q => by have := bod.lt _ _ _ Ik _ q; omega)]; exact c11
    rcases hres with ⟨rfl, hI⟩ | ⟨rfl, hJ'⟩
    · simp (disch := first | omega | decide | with_unfolding_all rfl) [e7, c12]
      refine .mk (k + 1, a1', a2', B') (hM ▸ ⟨by simp, by simp only; omega, hI, fun b hb => ?_, by omega, fun b q1 q2 q3 q4 => ?_, ?_, ?_, fun q => ?_⟩) (by simp only; omega)
      · rcases hB' b hb with q | q
        · exact hBs b q
        · omega
      · rw [k12 b (by omega) q2 (hBn b q1), all11 b (by omega) q3 q4]; exact hkeep b q1 q2 q3 q4
      · rw [k12 _ (by omega) (hWl _ (by omega)) (hBn _ (by omega))]; exact g1'
      · rw [k12 _ (by omega) (hWl _ (by omega)) (hBn _ (by omega))]; exact g11
      · exact ⟨f10.up hlk, f11.up hlk⟩
    · simp (disch := first | omega | decide | with_unfolding_all rfl) [e7, c12]
      exact hRR _ _ ⟨by omega, .inr ⟨B', hJ'⟩⟩
  · simp (disch := first | omega | decide | with_unfolding_all rfl) [e0, e4, e7, hRc, hlt]
    exact hRR _ _ ⟨by omega, .inl ⟨B, by rw [show cs.length - 1 = k by omega]; exact Ik⟩⟩
end Go.Proofs.Ytlgbeekhaoiggaa
end

section
namespace Go.Proofs.Ytlgbeekhaoiggaa
open Go.AM Go.Sort
set_option maxHeartbeats 4000000
variable {f : Nat} {h : Heap}
theorem algPieces_runs {a1 a2 : Option Addr} {n1 n2 c1 c2 : Nat} {κ : Ctx} : Runs Xq κ 101 [.slice a1 n1 c1, .slice a2 n2 c2] h (.func (.func 125) #[] #[.pointer (some ⟨h.size, 0, none⟩), .pointer (some ⟨h.size + 1, 0, none⟩)]) ((h.push (.cells [.slice a1 n1 c1] 23)).push (.cells [.slice a2 n2 c2] 23)) := by
  refine runs_L rfl f101_is ?_
  simp (disch := first | omega | decide | with_unfolding_all rfl)
def suchW (pf : Bool → Bool → Bool) (xs ys : List Sp) : List Sp := pieces (fun n => pf (hasL xs n) (hasL ys n)) (riseL (cutsOf (xs ++ ys)))
theorem such_runs {va vb : Value} {xs ys : List Sp} {cg : FuncId} {pf : Bool → Bool → Bool} (hr : SRow h va xs) (hu : SRow h vb ys) (hl : xs.length + ys.length ≤ 400) (hx : ∀ x ∈ xs, okP x) (hy : ∀ x ∈ ys, okP x) (hc : ∀ p q g h1, Runs Xq ⟨g, []⟩ cg [.bool p, .bool q] h1 (.bool (pf p q)) h1) :
    Runs Xq ⟨f, []⟩ 62 [va, vb, .func (.func cg) #[] #[]] h (rowV h.size (suchW pf xs ys).length) (pushR h 46 (elems spC (suchW pf xs ys))) := by
  refine runs_R rfl f62_is ?_
  have hxy := ok_app hx hy
  obtain ⟨hcs, hcm, hcn⟩ := riseL_ok (cutsOf_ok hxy)
  have hcl := cutsOf_len (xs ++ ys)
  rw [List.length_append] at hcl
  obtain ⟨a1, c1, rfl⟩ := hr.form
  obtain ⟨a2, c2, rfl⟩ := hu.form
  simp (disch := first | omega | decide | with_unfolding_all rfl) [RF_of algPieces_runs]
  have l4 : Low h.size h ((((h.push (.cells [.func (.func cg) #[] #[]] 75)).push (.cells [.slice none 0 0] 23)).push (.cells [.slice a1 xs.length c1] 23)).push (.cells [.slice a2 ys.length c2] 23)) := (((Low.push (Nat.le_refl _) _).pushR (Nat.le_refl _) _).pushR (Nat.le_refl _) _).pushR (Nat.le_refl _) _
  have q0 : ((((h.push (.cells [.func (.func cg) #[] #[]] 75)).push (.cells [.slice none 0 0] 23)).push (.cells [.slice a1 xs.length c1] 23)).push (.cells [.slice a2 ys.length c2] 23))[h.size]? = some (.cells [.func (.func cg) #[] #[]] 75) := by rw [push_lt (by simp; omega), push_lt (by simp; omega), push_lt (by simp), push_at rfl]
  have q1 : ((((h.push (.cells [.func (.func cg) #[] #[]] 75)).push (.cells [.slice none 0 0] 23)).push (.cells [.slice a1 xs.length c1] 23)).push (.cells [.slice a2 ys.length c2] 23))[h.size + 1]? = some (.cells [.slice none 0 0] 23) := by rw [push_lt (by simp), push_lt (by simp), push_at (by simp)]
  have q2 : ((((h.push (.cells [.func (.func cg) #[] #[]] 75)).push (.cells [.slice none 0 0] 23)).push (.cells [.slice a1 xs.length c1] 23)).push (.cells [.slice a2 ys.length c2] 23))[h.size + 2]? = some (.cells [.slice a1 xs.length c1] 23) := by rw [push_lt (by simp), push_at (by simp)]
  have q3 : ((((h.push (.cells [.func (.func cg) #[] #[]] 75)).push (.cells [.slice none 0 0] 23)).push (.cells [.slice a1 xs.length c1] 23)).push (.cells [.slice a2 ys.length c2] 23))[h.size + 3]? = some (.cells [.slice a2 ys.length c2] 23) := by rw [push_at (by simp)]
  have zs : ((((h.push (.cells [.func (.func cg) #[] #[]] 75)).push (.cells [.slice none 0 0] 23)).push (.cells [.slice a1 xs.length c1] 23)).push (.cells [.slice a2 ys.length c2] 23)).size = h.size + 4 := by simp
  generalize ((((h.push (.cells [.func (.func cg) #[] #[]] 75)).push (.cells [.slice none 0 0] 23)).push (.cells [.slice a1 xs.length c1] 23)).push (.cells [.slice a2 ys.length c2] 23)) = h4 at *
  have t0 := cellsB q0
  have hr4 := hr.low l4 (Nat.le_refl _)
  have hu4 := hu.low l4 (Nat.le_refl _)
  have hb1 : 0 < xs.length → bkV (.slice a1 xs.length c1) < h.size := hr.lt
  have hb2 : 0 < ys.length → bkV (.slice a2 ys.length c2) < h.size := hu.lt
  generalize hcsd : riseL (cutsOf (xs ++ ys)) = cs at *
  have hpl : ∀ i, (pieces (fun n => pf (hasL xs n) (hasL ys n)) (cs.take i)).length ≤ 800 := fun i => by
    have := pieces_len (fun n => pf (hasL xs n) (hasL ys n)) (cs.take i); rw [List.length_take] at this; omega
  refine Run_env (fun E => E 5 = .pointer (some ⟨h.size, 0, none⟩) ∧ E 7 = .pointer (some ⟨h.size + 1, 0, none⟩) ∧ E 12 = .func (.func 125) #[] #[.pointer (some ⟨h.size + 2, 0, none⟩), .pointer (some ⟨h.size + 3, 0, none⟩)]) ⟨by simp, by simp, by simp⟩ fun E ⟨E5, E7, E12⟩ => ?_
  refine Run_range (g := 125) (first := #[]) (cap := #[.pointer (some ⟨h.size + 2, 0, none⟩), .pointer (some ⟨h.size + 3, 0, none⟩)]) (n := cs.length - 1) (arg := pieceA xs ys cs) (Z := fun b => b = h.size + 2 ∨ b = h.size + 3 ∨ (0 < xs.length ∧ b = bkV (.slice a1 xs.length c1)) ∨ (0 < ys.length ∧ b = bkV (.slice a2 ys.length c2))) E12
    (by rw [← hcsd]; exact pieces_iter (f := h.size) (x1 := h.size + 2) (x2 := h.size + 3) (by rw [push_lt (by omega)]; exact q2) (by rw [push_lt (by omega)]; exact q3) (hr4.push _) (hu4.push _) hl hx hy (by simp; omega)) [h.size + 1] (fun b hb => ?_) (by have := hb1; have := hb2; omega) (by simp only; omega) (fun k _ => rfl)
    (fun k B h1 => ∃ w, h1[h.size + 1]? = some (.cells [w] 23) ∧ h1[h.size]? = some (.cells [.func (.func cg) #[] #[]] 75) ∧ Own (h4.size + 1) h1 46 4 w (elems spC (pieces (fun n => pf (hasL xs n) (hasL ys n)) (cs.take (k + 1)))) ∧ B = (blk w).toList)
    (fun k B g1 g2 ⟨w, p1, p2, p3, p4⟩ hs hk => ⟨w, by rw [hk _ (ltB p1) (.inl (by omega))]; exact p1, by rw [hk _ (ltB p2) (.inl (by omega))]; exact p2, p3.keep (fun b q => hk b (p3.bk q).2 (.inr (by rw [p4, q]; simp))), p4⟩)
    (fun k B g1 ⟨w, p1, p2, p3, p4⟩ b hb => by
      rw [p4] at hb
      have hb' := Option.mem_toList.1 hb
      have := p3.bk hb'; omega)
    ⟨.slice none 0 0, q1, q0, by cases cs <;> simp [pieces] <;> exact .nil, rfl⟩ (fun k B h1 hk ⟨w, p1, p2, p3, p4⟩ hs hL => ?_) (fun B h1 ⟨w, p1, p2, p3, p4⟩ hs => ?_)
  · simp at hb; subst hb
    refine ⟨by omega, fun q => ?_⟩
    omega
  · have hlt : k + 1 < cs.length := by omega
    have hpt := pieces_take (fun n => pf (hasL xs n) (hasL ys n)) hlt
    have c1 := cellsB p1
    have c0 := cellsB p2
    have z1 := ltB p1
    have hE : ∀ n x y, n ≠ 13 → n ≠ 14 → setPs E [(13, x), (14, y)] n = E n := fun n x y q1 q2 => by simp [setPs, q1, q2]
    refine Run_fo fun Q hQ => ?_
    simp (disch := first | omega | decide | with_unfolding_all rfl) [pieceA, setPs]
    refine hQ _ _ _ ⟨rfl, by rw [push_lt (by simp; omega), push_lt (by omega)]; exact hL, ?_⟩
    clear hQ Q
    refine Run_fo fun Q hQ => ?_
    have hL1 := ltB hL
    have z0 := ltB p2
    generalize hlp : AObj.loop ⟨.busy, .normal, E, [13, 14], _, _⟩ = lp at hQ ⊢
    have fin : ∀ (E' : Env) (h3 : Heap) (w' : Value), h1.size ≤ h3.size → h3[h4.size]? = some lp → h3[h.size + 1]? = some (.cells [w'] 23) → (∀ b, b < h1.size → b ≠ h4.size → b ≠ h.size + 1 → b ∉ B → h3[b]? = h1[b]?) →
        Own (h4.size + 1) h3 46 4 w' (elems spC (pieces (fun n => pf (hasL xs n) (hasL ys n)) (cs.take (k + 2)))) → (∀ b ∈ (blk w').toList, b ∈ B ∨ h1.size ≤ b) → Q .normal E' h3 :=
      fun E' h3 w' a1 a2 a3 a4 a5 a6 => hQ _ _ _ ⟨rfl, a2, a1, fun b q1 q2 q3 q4 => a4 b q1 q2 (by simpa using q3) q4, _, a6, w', a3, by rw [a4 _ z0 (by omega) (by omega) (fun q => by rw [p4] at q; have := (p3.bk (Option.mem_toList.1 q)).1; omega)]; exact p2, a5, rfl⟩
    clear hQ
    have kX : ∀ x y b, b < h1.size → b ≠ h4.size → (((h1.push x).push y).setIfInBounds h4.size lp)[b]? = h1[b]? := fun x y b q1 q2 => by rw [Array.getElem?_setIfInBounds, if_neg (fun q => q2 q.symm), push_lt (by simp; omega), push_lt q1]
    have LX : ∀ x y, (((h1.push x).push y).setIfInBounds h4.size lp)[h4.size]? = some lp := fun x y => by rw [Array.getElem?_setIfInBounds, if_pos rfl, if_pos (by simp; omega)]
    cases hq : pf (hasL xs (keyC (nth cs k))) (hasL ys (keyC (nth cs k))) with
    | false =>
      rw [pieceAt, hq, if_neg (by simp), List.append_nil] at hpt
      simp (disch := first | omega | decide | with_unfolding_all rfl) [E5, E7, c0, c1, RF_of (hc _ _ _ _), hq]
      exact fin _ _ w (by simp; omega) (LX _ _) (by rw [kX _ _ _ z1 (by omega)]; exact p1) (fun b q1 q2 _ _ => kX _ _ b q1 q2) (by rw [hpt]; exact p3.keep fun b q => kX _ _ b (p3.bk q).2 (by have := p3.bk q; omega)) (fun b q => .inl (p4 ▸ q))
    | true =>
      rw [pieceAt, hq, if_pos rfl] at hpt
      simp (disch := first | omega | decide | with_unfolding_all rfl) [E5, E7, c0, c1, RF_of (hc _ _ _ _), hq]
      have hpk := hpl (k + 1)
      have sX : ∀ x y, (((h1.push x).push y).setIfInBounds h4.size lp).size = h1.size + 2 := fun x y => by simp
      have pX : ∀ x y, Own (h4.size + 1) (((h1.push x).push y).setIfInBounds h4.size lp) 46 4 w (elems spC (pieces (fun n => pf (hasL xs n) (hasL ys n)) (cs.take (k + 1)))) := fun x y => p3.keep fun b q => kX _ _ b (p3.bk q).2 (by have := p3.bk q; omega)
      refine RM_app1k (n := (pieces (fun n => pf (hasL xs n) (hasL ys n)) (cs.take (k + 1))).length) (pX _ _) (by omega) (by rw [sX]; omega) (by rw [elems_len spC_len]) rfl (by omega) rfl (by omega) (by omega) (fun w2 h2 o2 l2 ⟨b2, hb2', hb3⟩ => ?_)
      have s2 := l2.1
      rw [sX] at s2 hb3
      have hnw : ∀ b, b < h4.size + 1 → blk w ≠ some b := fun b hb q => by have := (p3.bk q).1; omega
      have q1 : h2[h.size + 1]? = some (.cells [w] 23) := by rw [l2.2 _ (by rw [sX]; omega) (hnw _ (by omega)), kX _ _ _ z1 (by omega)]; exact p1
      have q2 : h2[h4.size]? = some lp := by rw [l2.2 _ (by rw [sX]; omega) (hnw _ (by omega))]; exact LX _ _
      have o2w : Go.AM.one w2 = true := by rcases o2.ex with ⟨_, q⟩ | ⟨_, b, n, q, _⟩ <;> rw [q] <;> rfl
      have o2c : w2.cells = #[w2] := by rcases o2.ex with ⟨_, q⟩ | ⟨_, b, n, q, _⟩ <;> rw [q] <;> rfl
      have z3 := ltB q1
      simp (disch := first | omega | decide | with_unfolding_all rfl) [E7, wr_def q1, o2w, o2c]
      refine fin _ _ w2 (by simp; omega) (by rw [Array.getElem?_setIfInBounds, if_neg (by omega)]; exact q2) (by rw [Array.getElem?_setIfInBounds, if_pos rfl, if_pos z3]) (fun b u1 u2 u3 u4 => ?_) ?_ (fun b q => .inr ?_)
      · rw [Array.getElem?_setIfInBounds, if_neg (fun q => u3 q.symm), l2.2 _ (by rw [sX]; omega) (fun q => u4 (by rw [p4, q]; simp)), kX _ _ _ u1 u2]
      · rw [hpt, elems_append]
        refine Own.keep (h := h2) (by simpa [spC] using o2) fun b q => ?_
        rw [Array.getElem?_setIfInBounds, if_neg]
        rw [hb2'] at q; injection q with q; omega
      · rw [hb2'] at q; simp at q; omega
  · have c1 := cellsB p1
    have z1 := ltB p1
    simp (disch := first | omega | decide | with_unfolding_all rfl) [E7, c1]
    have hn : cs.take (cs.length - 1 + 1) = cs := List.take_of_length_le (by omega)
    rw [hn] at p3
    unfold suchW
    rw [hcsd]
    exact RQ_own ((p3.keep (fun b q => by have := p3.bk q; rw [Array.getElem?_setIfInBounds, if_neg (by omega)])).weak (by omega)) spC_len (by omega) (all_below_ints (elems_ints spC_ints _)) ⟨rfl, rfl⟩
end Go.Proofs.Ytlgbeekhaoiggaa
end

section
namespace Go.Proofs.Ytlgbeekhaoiggaa
open Go.AM Go.Sort
set_option maxHeartbeats 4000000
variable {f : Nat} {h : Heap}
theorem or1_runs {p q : Bool} : Runs Xq ⟨f, []⟩ 63 [.bool p, .bool q] h (.bool (p || q)) h := by
  refine runs_R rfl f63_is ?_
  cases p <;> simp (disch := first | omega | decide | with_unfolding_all rfl)
theorem and1_runs {p q : Bool} : Runs Xq ⟨f, []⟩ 65 [.bool p, .bool q] h (.bool (p && q)) h := by
  refine runs_R rfl f65_is ?_
  cases p <;> simp (disch := first | omega | decide | with_unfolding_all rfl)
theorem minus1_runs {p q : Bool} : Runs Xq ⟨f, []⟩ 67 [.bool p, .bool q] h (.bool (p && !q)) h := by
  refine runs_R rfl f67_is ?_
  cases p <;> simp (disch := first | omega | decide | with_unfolding_all rfl)
theorem xor1_runs {p q : Bool} : Runs Xq ⟨f, []⟩ 69 [.bool p, .bool q] h (.bool (p != q)) h := by
  refine runs_R rfl f69_is ?_
  cases p <;> cases q <;> simp (disch := first | omega | decide | with_unfolding_all rfl)
theorem refine1_runs {p q : Bool} : Runs Xq ⟨f, []⟩ 70 [.bool p, .bool q] h (.bool p) h := by
  refine runs_R rfl f70_is ?_
  simp (disch := first | omega | decide | with_unfolding_all rfl)
theorem suchW_len {pf : Bool → Bool → Bool} {xs ys : List Sp} (hx : ∀ x ∈ xs, okP x) (hy : ∀ x ∈ ys, okP x) : (suchW pf xs ys).length ≤ 2 * (xs.length + ys.length) := by
  have h1 := pieces_len (fun n => pf (hasL xs n) (hasL ys n)) (riseL (cutsOf (xs ++ ys)))
  have h2 := (riseL_ok (cutsOf_ok (ok_app hx hy))).2.2
  have h3 := cutsOf_len (xs ++ ys)
  rw [List.length_append] at h3
  unfold suchW; omega
theorem alg_eq {pf : Bool → Bool → Bool} {xs ys W : List Sp} (hx : ∀ x ∈ xs, okP x) (hy : ∀ x ∈ ys, okP x) (hp : pf false false = false) (hW : (∀ x ∈ W, okP x) ∧ CanL W ∧ ∀ n, inL W n ↔ pf (hasL xs n) (hasL ys n) = true) : listW (suchW pf xs ys) = W := by
  obtain ⟨q1, q2⟩ := pieces2 (p := pf) hx hy hp
  obtain ⟨r1, r2, r3⟩ := listW_ok q1
  exact canL_eq r1 hW.1 r2 hW.2.1 fun n => by rw [hW.2.2]; exact (r3 n).trans (q2 n)
theorem hasL_f {xs : List Sp} {n : Int} : hasL xs n = false ↔ ¬ inL xs n := by rw [← hasL_iff]; simp
theorem or_eq {xs ys : List Sp} (hx : ∀ x ∈ xs, okP x) (hy : ∀ x ∈ ys, okP x) : listW (suchW (fun p q => p || q) xs ys) = orW xs ys := by
  obtain ⟨a, b, c⟩ := inL_or hx hy
  exact alg_eq hx hy rfl ⟨a, b, fun n => by rw [c, Bool.or_eq_true, hasL_iff, hasL_iff]⟩
theorem and_eq {xs ys : List Sp} (hx : ∀ x ∈ xs, okP x) (hy : ∀ x ∈ ys, okP x) : listW (suchW (fun p q => p && q) xs ys) = meetW xs ys := by
  obtain ⟨a, b, c⟩ := meetW_ok hx hy
  exact alg_eq hx hy rfl ⟨a, b, fun n => by rw [c, Bool.and_eq_true, hasL_iff, hasL_iff]⟩
theorem minus_eq {xs ys : List Sp} (hx : ∀ x ∈ xs, okP x) (hy : ∀ x ∈ ys, okP x) : listW (suchW (fun p q => p && !q) xs ys) = minusW xs ys := by
  obtain ⟨a, b, c⟩ := minusW_ok hx hy
  exact alg_eq hx hy rfl ⟨a, b, fun n => by rw [c, Bool.and_eq_true, Bool.not_eq_true', hasL_iff, hasL_f]⟩
theorem xor_eq {xs ys : List Sp} (hx : ∀ x ∈ xs, okP x) (hy : ∀ x ∈ ys, okP x) : listW (suchW (fun p q => p != q) xs ys) = xorW xs ys := by
  obtain ⟨a, b, c⟩ := xorW_ok hx hy
  refine alg_eq hx hy rfl ⟨a, b, fun n => ?_⟩
  rw [c, ← hasL_iff, ← hasL_iff]
  cases hasL xs n <;> cases hasL ys n <;> simp
theorem such_list {va vb : Value} {xs ys W : List Sp} {cg fg : FuncId} {pf : Bool → Bool → Bool} (hr : SRow h va xs) (hu : SRow h vb ys) (hl : xs.length + ys.length ≤ 400) (hx : ∀ x ∈ xs, okP x) (hy : ∀ x ∈ ys, okP x) (hc : ∀ p q g h1, Runs Xq ⟨g, []⟩ cg [.bool p, .bool q] h1 (.bool (pf p q)) h1) (hp : pf false false = false) (hW : listW (suchW pf xs ys) = W) {g : Nat} :
    ∃ v1 h1, Runs Xq ⟨g, []⟩ 62 [va, vb, .func (.func cg) #[] #[]] h v1 h1 ∧ h.size ≤ h1.size ∧ Runs Xq ⟨g, []⟩ 61 [v1] h1 (rowV h1.size W.length) (pushR h1 46 (elems spC W)) := by
  refine ⟨_, _, such_runs hr hu hl hx hy hc, (low_pushR (Nat.le_refl _) _ _).1, ?_⟩
  have h1 := suchW_len (pf := pf) hx hy
  rw [← hW]
  exact spanList_runs (row_pushR spC_len (by omega)) (by omega) (pieces2 (p := pf) hx hy hp).1
theorem algOr_runs {va vb : Value} {xs ys : List Sp} (hr : SRow h va xs) (hu : SRow h vb ys) (hl : xs.length + ys.length ≤ 400) (hx : ∀ x ∈ xs, okP x) (hy : ∀ x ∈ ys, okP x) : Runs Xq ⟨f, []⟩ 26 [va, vb] h (rowV h.size (orW xs ys).length) (pushR h 46 (elems spC (orW xs ys))) := by
  refine runs_R rfl f26_is ?_
  obtain ⟨v1, h1, r1, s1, r2⟩ := such_list (fg := 0) (g := h.size) hr hu hl hx hy (fun _ _ _ _ => or1_runs) rfl (or_eq hx hy)
  simp (disch := first | omega | decide | with_unfolding_all rfl) [RF_of r1, RF_of r2, RQ_rowV (xs := orW xs ys) spC_len spC_ints]
theorem algAnd_runs {va vb : Value} {xs ys : List Sp} (hr : SRow h va xs) (hu : SRow h vb ys) (hl : xs.length + ys.length ≤ 400) (hx : ∀ x ∈ xs, okP x) (hy : ∀ x ∈ ys, okP x) : Runs Xq ⟨f, []⟩ 28 [va, vb] h (rowV h.size (meetW xs ys).length) (pushR h 46 (elems spC (meetW xs ys))) := by
  refine runs_R rfl f28_is ?_
  obtain ⟨v1, h1, r1, s1, r2⟩ := such_list (fg := 0) (g := h.size) hr hu hl hx hy (fun _ _ _ _ => and1_runs) rfl (and_eq hx hy)
  simp (disch := first | omega | decide | with_unfolding_all rfl) [RF_of r1, RF_of r2, RQ_rowV (xs := meetW xs ys) spC_len spC_ints]
theorem algMinus_runs {va vb : Value} {xs ys : List Sp} (hr : SRow h va xs) (hu : SRow h vb ys) (hl : xs.length + ys.length ≤ 400) (hx : ∀ x ∈ xs, okP x) (hy : ∀ x ∈ ys, okP x) : Runs Xq ⟨f, []⟩ 30 [va, vb] h (rowV h.size (minusW xs ys).length) (pushR h 46 (elems spC (minusW xs ys))) := by
  refine runs_R rfl f30_is ?_
  obtain ⟨v1, h1, r1, s1, r2⟩ := such_list (fg := 0) (g := h.size) hr hu hl hx hy (fun _ _ _ _ => minus1_runs) rfl (minus_eq hx hy)
  simp (disch := first | omega | decide | with_unfolding_all rfl) [RF_of r1, RF_of r2, RQ_rowV (xs := minusW xs ys) spC_len spC_ints]
theorem algXor_runs {va vb : Value} {xs ys : List Sp} (hr : SRow h va xs) (hu : SRow h vb ys) (hl : xs.length + ys.length ≤ 400) (hx : ∀ x ∈ xs, okP x) (hy : ∀ x ∈ ys, okP x) : Runs Xq ⟨f, []⟩ 32 [va, vb] h (rowV h.size (xorW xs ys).length) (pushR h 46 (elems spC (xorW xs ys))) := by
  refine runs_R rfl f32_is ?_
  obtain ⟨v1, h1, r1, s1, r2⟩ := such_list (fg := 0) (g := h.size) hr hu hl hx hy (fun _ _ _ _ => xor1_runs) rfl (xor_eq hx hy)
  simp (disch := first | omega | decide | with_unfolding_all rfl) [RF_of r1, RF_of r2, RQ_rowV (xs := xorW xs ys) spC_len spC_ints]
theorem algRefine_runs {va vb : Value} {xs ys : List Sp} (hr : SRow h va xs) (hu : SRow h vb ys) (hl : xs.length + ys.length ≤ 400) (hx : ∀ x ∈ xs, okP x) (hy : ∀ x ∈ ys, okP x) : Runs Xq ⟨f, []⟩ 36 [va, vb] h (rowV h.size (refineW xs ys).length) (pushR h 46 (elems spC (refineW xs ys))) := by
  refine runs_R rfl f36_is ?_
  have r1 : Runs Xq ⟨h.size, []⟩ 62 [va, vb, .func (.func 70) #[] #[]] h (rowV h.size (refineW xs ys).length) (pushR h 46 (elems spC (refineW xs ys))) := such_runs hr hu hl hx hy (pf := fun p _ => p) (fun _ _ _ _ => refine1_runs)
  simp (disch := first | omega | decide | with_unfolding_all rfl) [RF_of r1]
  simp (disch := first | omega | decide | with_unfolding_all rfl) [RQ_rowV (h := h) (xs := refineW xs ys) spC_len spC_ints]
theorem algWithin_runs {va vb : Value} {xs ys : List Sp} (hr : SRow h va xs) (hu : SRow h vb ys) (hl : xs.length + ys.length ≤ 400) (hx : ∀ x ∈ xs, okP x) (hy : ∀ x ∈ ys, okP x) : Runs Xq ⟨f, []⟩ 34 [va, vb] h (.bool (decide ((minusW xs ys).length = 0))) h := by
  refine runs_R rfl f34_is ?_
  simp (disch := first | omega | decide | with_unfolding_all rfl) [RF_of (algMinus_runs hr hu hl hx hy)]
  by_cases hq : minusW xs ys = [] <;> simp [hq]
theorem algEqual_runs {va vb : Value} {xs ys : List Sp} (hr : SRow h va xs) (hu : SRow h vb ys) (hl : xs.length + ys.length ≤ 400) (hx : ∀ x ∈ xs, okP x) (hy : ∀ x ∈ ys, okP x) : Runs Xq ⟨f, []⟩ 35 [va, vb] h (.bool (decide ((xorW xs ys).length = 0))) h := by
  refine runs_R rfl f35_is ?_
  simp (disch := first | omega | decide | with_unfolding_all rfl) [RF_of (algXor_runs hr hu hl hx hy)]
  by_cases hq : xorW xs ys = [] <;> simp [hq]
theorem algNot_runs {va : Value} {xs : List Sp} {w : Sp} (hr : SRow h va xs) (hl : xs.length ≤ 300) (hx : ∀ x ∈ xs, okP x) (hw : okP w) : Runs Xq ⟨f, []⟩ 44 [va, spA w] h (rowV h.size (minusW [w] xs).length) (pushR h 46 (elems spC (minusW [w] xs))) := by
  refine runs_R rfl f44_is ?_
  simp (disch := first | omega | decide | with_unfolding_all rfl)
  have l2 : Low h.size h ((h.push (.cells [.int .i64 w.a, .int .i64 w.b, .int .i64 w.c, .int .i64 w.d] 46)).push (.cells [.int .i64 w.a, .int .i64 w.b, .int .i64 w.c, .int .i64 w.d] 46)) := (Low.push (Nat.le_refl _) _).pushR (Nat.le_refl _) _
  have q2 : SRow ((h.push (.cells [.int .i64 w.a, .int .i64 w.b, .int .i64 w.c, .int .i64 w.d] 46)).push (.cells [.int .i64 w.a, .int .i64 w.b, .int .i64 w.c, .int .i64 w.d] 46)) (.slice (some ⟨h.size + 1, 0, none⟩) 1 1) [w] :=
    ⟨.inr ⟨h.size + 1, 0, 1, rfl, Nat.le_refl _, by simp, .inr ⟨[.int .i64 w.a, .int .i64 w.b, .int .i64 w.c, .int .i64 w.d], push_at (by simp), by simp [grab, spC]⟩⟩⟩
  rw [RF_of (algMinus_runs q2 (hr.low l2 (Nat.le_refl _)) (by simp; omega) (by simpa using hw) hx)]
  have s2 := l2.1
  generalize (h.push (.cells [.int .i64 w.a, .int .i64 w.b, .int .i64 w.c, .int .i64 w.d] 46)).push (.cells [.int .i64 w.a, .int .i64 w.b, .int .i64 w.c, .int .i64 w.d] 46) = h2 at *
  simp (disch := first | omega | decide | with_unfolding_all rfl) [RQ_rowV (xs := minusW [w] xs) spC_len spC_ints]
end Go.Proofs.Ytlgbeekhaoiggaa
end

section
namespace Go.Proofs.Ytlgbeekhaoiggaa
open Go.AM Go.Sort
set_option maxHeartbeats 4000000
variable {f : Nat} {h : Heap}
theorem to_runs {a b : Int} : Runs Xq ⟨f, []⟩ 60 [.int .i64 a, .int .i64 b] h (.agg #[.int .i64 0, .int .i64 a, .int .i64 0, .int .i64 b]) h := by
  refine runs_R rfl f60_is ?_
  simp (disch := first | omega | decide | with_unfolding_all rfl)
theorem lit_row {xs : List Sp} {c : List Value} {n b : Nat} (hc : c = elems spC xs) (hn : n = xs.length) (hb : b = h.size := by simp) : SRow (h.push (.cells c 46)) (.slice (some ⟨b, 0, none⟩) n n) xs := by
  subst hc hn hb
  refine ⟨.inr ⟨h.size, 0, xs.length, rfl, Nat.le_refl _, by simp, .inr ⟨_, push_at rfl, ?_⟩⟩⟩
  unfold grab; rw [if_pos (by rw [elems_len spC_len]; omega), ← elems_len spC_len]; simp
abbrev A1 : List Sp := [⟨0, 0, 0, 4⟩, ⟨0, 6, 0, 8⟩]
abbrev A2 : List Sp := [⟨0, 2, 0, 7⟩]
theorem okA1 : ∀ x ∈ A1, okP x := by simp [okP, okN]
theorem okA2 : ∀ x ∈ A2, okP x := by simp [okP, okN]
theorem phase {op : FuncId} {xs ys W L : List Sp} {va vb : Value} (r : Runs Xq ⟨f, []⟩ op [va, vb] h (rowV h.size W.length) (pushR h 46 (elems spC W))) (hW : W = L) :
    ∃ v1 h1, Runs Xq ⟨f, []⟩ op [va, vb] h v1 h1 ∧ Low h.size h h1 ∧ SRow h1 v1 L := by
  subst hW
  exact ⟨_, _, r, low_pushR (Nat.le_refl _) _ _, row_pushR spC_len (by omega)⟩
theorem same_lit {v : Value} {L : List Sp} (q : SRow h v L) (hl : L.length ≤ 100000) : Runs Xq ⟨f, []⟩ 16 [v, .slice (some ⟨h.size, 0, none⟩) L.length L.length] (h.push (.cells (elems spC L) 46)) (.bool true) (h.push (.cells (elems spC L) 46)) := by
  have := same_runs (f := f) (q.push (.cells (elems spC L) 46)) (lit_row (h := h) (xs := L) rfl rfl rfl) hl hl
  simp only [decide_true] at this
  exact up this
theorem alive_runs : Runs Xq ⟨f, []⟩ 25 [] h (.bool true) h := by
  refine runs_R rfl f25_is ?_
  simp (disch := first | omega | decide | with_unfolding_all rfl) [RF_of to_runs]
  have ra : SRow ((h.push (.cells [.int .i64 0, .int .i64 0, .int .i64 0, .int .i64 4, .int .i64 0, .int .i64 6, .int .i64 0, .int .i64 8] 46)).push (.cells [.int .i64 0, .int .i64 2, .int .i64 0, .int .i64 7] 46)) (.slice (some ⟨h.size, 0, none⟩) 2 2) A1 := (lit_row (h := h) (xs := A1) rfl rfl rfl).push _
  have rb : SRow ((h.push (.cells [.int .i64 0, .int .i64 0, .int .i64 0, .int .i64 4, .int .i64 0, .int .i64 6, .int .i64 0, .int .i64 8] 46)).push (.cells [.int .i64 0, .int .i64 2, .int .i64 0, .int .i64 7] 46)) (.slice (some ⟨h.size + 1, 0, none⟩) 1 1) A2 := lit_row (xs := A2) rfl rfl
  generalize (h.push (.cells [.int .i64 0, .int .i64 0, .int .i64 0, .int .i64 4, .int .i64 0, .int .i64 6, .int .i64 0, .int .i64 8] 46)).push (.cells [.int .i64 0, .int .i64 2, .int .i64 0, .int .i64 7] 46) = h2 at *
  generalize Value.slice (some ⟨h.size, 0, none⟩) 2 2 = va at *
  generalize Value.slice (some ⟨h.size + 1, 0, none⟩) 1 1 = vb at *
  obtain ⟨v3, h3, r3, l3, q3⟩ := phase (xs := A1) (ys := A2) (algOr_runs (f := h.size) ra rb (by simp) okA1 okA2) (show orW A1 A2 = [⟨0, 0, 0, 8⟩] by kernel_rfl)
  have e3 := same_lit (f := h.size) q3 (by simp)
  replace ra := (ra.low l3 (Nat.le_refl _)).push (.cells (elems spC [⟨0, 0, 0, 8⟩]) 46)
  replace rb := (rb.low l3 (Nat.le_refl _)).push (.cells (elems spC [⟨0, 0, 0, 8⟩]) 46)
  simp [spC] at e3 ra rb
  simp (disch := first | omega | decide | with_unfolding_all rfl) [RF_of r3, RF_of to_runs, RF_of e3]
  obtain ⟨v4, h4, r4, l4, q4⟩ := phase (xs := A1) (ys := A2) (algAnd_runs (f := h.size) ra rb (by simp) okA1 okA2) (show meetW A1 A2 = [⟨0, 2, 0, 4⟩, ⟨0, 6, 0, 7⟩] by kernel_rfl)
  have e4 := same_lit (f := h.size) q4 (by simp)
  replace ra := (ra.low l4 (Nat.le_refl _)).push (.cells (elems spC [⟨0, 2, 0, 4⟩, ⟨0, 6, 0, 7⟩]) 46)
  replace rb := (rb.low l4 (Nat.le_refl _)).push (.cells (elems spC [⟨0, 2, 0, 4⟩, ⟨0, 6, 0, 7⟩]) 46)
  simp [spC] at e4 ra rb
  simp (disch := first | omega | decide | with_unfolding_all rfl) [RF_of r4, RF_of to_runs, RF_of e4]
  obtain ⟨v5, h5, r5, l5, q5⟩ := phase (xs := A1) (ys := A2) (algMinus_runs (f := h.size) ra rb (by simp) okA1 okA2) (show minusW A1 A2 = [⟨0, 0, 0, 2⟩, ⟨0, 7, 0, 8⟩] by kernel_rfl)
  have e5 := same_lit (f := h.size) q5 (by simp)
  replace ra := (ra.low l5 (Nat.le_refl _)).push (.cells (elems spC [⟨0, 0, 0, 2⟩, ⟨0, 7, 0, 8⟩]) 46)
  replace rb := (rb.low l5 (Nat.le_refl _)).push (.cells (elems spC [⟨0, 0, 0, 2⟩, ⟨0, 7, 0, 8⟩]) 46)
  simp [spC] at e5 ra rb
  simp (disch := first | omega | decide | with_unfolding_all rfl) [RF_of r5, RF_of to_runs, RF_of e5]
  obtain ⟨v6, h6, r6, l6, q6⟩ := phase (xs := A1) (ys := A2) (algXor_runs (f := h.size) ra rb (by simp) okA1 okA2) (show xorW A1 A2 = [⟨0, 0, 0, 2⟩, ⟨0, 4, 0, 6⟩, ⟨0, 7, 0, 8⟩] by kernel_rfl)
  have e6 := same_lit (f := h.size) q6 (by simp)
  replace ra := (ra.low l6 (Nat.le_refl _)).push (.cells (elems spC [⟨0, 0, 0, 2⟩, ⟨0, 4, 0, 6⟩, ⟨0, 7, 0, 8⟩]) 46)
  replace rb := (rb.low l6 (Nat.le_refl _)).push (.cells (elems spC [⟨0, 0, 0, 2⟩, ⟨0, 4, 0, 6⟩, ⟨0, 7, 0, 8⟩]) 46)
  simp [spC] at e6 ra rb
  simp (disch := first | omega | decide | with_unfolding_all rfl) [RF_of r6, RF_of to_runs, RF_of e6]
  obtain ⟨v7, h7, r7, l7, q7⟩ := phase (xs := A1) (ys := A2) (algRefine_runs (f := h.size) ra rb (by simp) okA1 okA2) (show refineW A1 A2 = [⟨0, 0, 0, 2⟩, ⟨0, 2, 0, 4⟩, ⟨0, 6, 0, 7⟩, ⟨0, 7, 0, 8⟩] by kernel_rfl)
  have q7' := (q7.R spC_len).1
  replace ra := ra.low l7 (Nat.le_refl _)
  replace rb := rb.low l7 (Nat.le_refl _)
  have e8 := algWithin_runs (f := h.size) ra rb (by simp) okA1 okA2
  rw [show decide ((minusW A1 A2).length = 0) = false by kernel_rfl] at e8
  have e9 := algEqual_runs (f := h.size) ra ra (by simp) okA1 okA1
  rw [show decide ((xorW A1 A1).length = 0) = true by kernel_rfl] at e9
  simp (disch := first | omega | decide | with_unfolding_all rfl) [RF_of r7, q7', RF_of e8, RF_of e9]
end Go.Proofs.Ytlgbeekhaoiggaa
end
