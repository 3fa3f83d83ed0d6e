import Derived.Test.YtlgbeekhaoiggaaAmF
import Derived.Below
import Derived.Carry
import Derived.ChangeOld
import Derived.ProofKit
import Derived.WideShapes
import Derived.Lib.Strings
import Derived.Lib.Slices
import Derived.Lib.Walk
import Derived.Lib.Builder
import Derived.Lib.AppendStr
import Derived.Lib.UnsafeStr
set_option linter.all false
section
namespace Go.AM
def impTyS (P : Program) : Nat → TypeId → Bool
  | 0, _ => false
  | f + 1, t => match P.underlying t with
    | some .bool | some (.int _) | some .string => true
    | some (.slice e) => decide (0 < P.cellsOf e) && impTyS P f e
    | some (.struct fs) => tiles P fs.toList 0 (P.cellsOf t) && fs.toList.all fun x => impTyS P f x.type
    | _ => false
theorem impTy_of (P : Program) : ∀ (n : Nat) (t : TypeId), impTyS P n t = true → ∀ f, impTy P f t = true
  | 0, t, h => by simp [impTyS] at h
  | n + 1, t, h => by
    intro f
    cases f with
    | zero => rfl
    | succ f =>
      unfold impTyS at h
      unfold impTy
      split at h
      · rename_i hd; rw [hd]
      · rename_i hd; rw [hd]
      · rename_i hd; rw [hd]
      · rename_i hd
        simp only [hd, Bool.and_eq_true] at h ⊢
        exact ⟨h.1, impTy_of P n _ h.2 f⟩
      · rename_i hd
        simp only [hd, Bool.and_eq_true, List.all_eq_true] at h ⊢
        exact ⟨h.1, fun x hx => impTy_of P n _ (h.2 x hx) f⟩
      · cases h
def ARods (P : Program) (h : Heap) : List TypeId → List Value → List Dat → Prop
  | [], [], [] => True
  | t :: ts, v :: vs, d :: ds => (∃ f, arod P h f t v.cells.toList = some d) ∧ ARods P h ts vs ds
  | _, _, _ => False
theorem ARods.mono {P : Program} {h h' : Heap} (hm : Pre h h') : ∀ {ts : List TypeId} {vs : List Value} {ds : List Dat}, ARods P h ts vs ds → ARods P h' ts vs ds
  | [], [], [], _ => trivial
  | t :: ts, v :: vs, d :: ds, ⟨⟨f, e⟩, r⟩ => ⟨⟨f, arod_mono hm f _ _ _ e⟩, ARods.mono hm r⟩
  | [], [], _ :: _, h => h.elim
  | [], _ :: _, _, h => h.elim
  | _ :: _, [], _, h => h.elim
  | _ :: _, _ :: _, [], h => h.elim
variable {H : Type} {enc : TypeId × Value → H} {P : Program} {W : World}
def isAgg : Value → Bool
  | .agg _ => true
  | _ => false
def aggTy (P : Program) (t : TypeId) : Bool := match P.underlying t with
  | some (.struct _) => true
  | _ => false
theorem isAgg_VR {μ : Mu} {a v : Value} (h : VR μ a v) : isAgg a = isAgg v := by cases h <;> rfl
theorem isAgg_okWide {t : TypeId} {v : Value} {base : Nat} {P : Program} {W : World} (hi : impTyS P 12 t = true) (h : Value.okWide P W .any base t v) : isAgg v = aggTy P t := by
  unfold impTyS at hi
  unfold aggTy
  split at hi
  · rename_i hd; obtain ⟨_, rfl⟩ := WideShapes.okWide_bool hd h; rw [hd]; rfl
  · rename_i hd; obtain ⟨_, rfl⟩ := WideShapes.okWide_int hd h; rw [hd]; rfl
  · rename_i hd; obtain ⟨_, rfl⟩ := WideShapes.okWide_string hd h; rw [hd]; rfl
  · rename_i hd; obtain ⟨_, _, _, rfl⟩ := WideShapes.okWide_slice hd h; rw [hd]; rfl
  · rename_i hd; obtain ⟨_, rfl, _⟩ := WideShapes.okWide_struct hd h; rw [hd]; rfl
  · cases hi
theorem shapes_of {base : Nat} : ∀ (ts : List TypeId) (vs : List Value) (ds : List (DataW H)) (ps : List MemPlace), DataW.TrodAll enc P W 0 (fun _ => true) true ts vs ds ps → (∀ t ∈ ts, impTyS P 12 t = true) →
    (∀ (j : Nat) (t : TypeId) (v : Value), ts[j]? = some t → vs[j]? = some v → Value.okWide P W .any base t v) → vs.map isAgg = ts.map (aggTy P)
  | [], [], [], ps, hA, hi, hv => rfl
  | t :: ts, v :: vs, d :: ds, ps, hA, hi, hv => by
    obtain ⟨p, q, _, hr, _⟩ := hA
    rw [List.map_cons, List.map_cons, isAgg_okWide (hi t (by simp)) (hv 0 t v rfl rfl), shapes_of ts vs ds q hr (fun u hu => hi u (by simp [hu])) (fun j u x h1 h2 => hv (j + 1) u x h1 h2)]
  | [], [], _ :: _, ps, hA, hi, hv => hA.elim
  | [], _ :: _, _, ps, hA, hi, hv => hA.elim
  | _ :: _, [], _, ps, hA, hi, hv => hA.elim
  | _ :: _, _ :: _, [], ps, hA, hi, hv => hA.elim
theorem cells_VR {μ : Mu} {acs : List Value} {v : Value} (hr : VRs μ acs v.cells.toList) : ∃ av, av.cells.toList = acs ∧ VR μ av v := by
  have single : v.cells = #[v] → (∀ cs, v ≠ .agg cs) → ∃ av, av.cells.toList = acs ∧ VR μ av v := by
    intro hv hna
    rw [hv] at hr
    obtain ⟨y, m', e, hy, hn⟩ : ∃ y m', acs = y :: m' ∧ VR μ y v ∧ VRs μ m' [] := by
      cases acs with
      | nil => have := hr.1; simp at this
      | cons y m' => exact ⟨y, m', rfl, hr.head, hr.tail⟩
    subst e
    have : m' = [] := by have := hn.1; cases m' with | nil => rfl | cons a l => simp at this
    subst this
    refine ⟨y, ?_, hy⟩
    cases hy <;> first | rfl | exact absurd rfl (hna _)
  cases v with
  | agg cs =>
    refine ⟨.agg acs.toArray, by simp [Value.cells], ?_⟩
    have := hr.agg
    simpa [Value.cells] using this
  | _ => exact single rfl (fun cs e => by cases e)
theorem imp_all : ∀ (ts : List TypeId) (vs : List Value) (ds : List (DataW H)) (ps : List MemPlace), DataW.TrodAll enc P W 0 (fun _ => true) true ts vs ds ps → (∀ t ∈ ts, impTyS P 12 t = true) → ∀ μ h, LayR P W μ h →
    Imp P W μ h fun μ' h' => ∃ avs Ds, VRs μ' avs vs ∧ ARods P h' ts avs Ds ∧ avs.map isAgg = vs.map isAgg
  | [], [], [], ps, hA, hi, μ, h, L => ⟨μ, h, L, .refl μ, .refl h, [], [], .nil, trivial, rfl⟩
  | t :: ts, v :: vs, d :: ds, ps, hA, hi, μ, h, L => by
    obtain ⟨p, q, ⟨fuel, hf⟩, hr, _⟩ := hA
    obtain ⟨μ1, h1, L1, le1, pre1, acs, D, r1, a1⟩ := imp fuel t _ _ hf (impTy_of P 12 t (hi t (by simp)) fuel) μ h L
    obtain ⟨μ2, h2, L2, le2, pre2, avs, Ds, r2, a2, sh2⟩ := imp_all ts vs ds q hr (fun u hu => hi u (by simp [hu])) μ1 h1 L1
    obtain ⟨av, e1, e2⟩ := cells_VR r1
    exact ⟨μ2, h2, L2, le1.trans le2, pre1.trans pre2, av :: avs, D :: Ds, .cons (e2.mono le2) r2, ⟨⟨fuel, by rw [e1]; exact arod_mono pre2 _ _ _ _ a1⟩, a2⟩, by rw [List.map_cons, List.map_cons, isAgg_VR e2, sh2]⟩
  | [], [], _ :: _, ps, hA, hi, μ, h, L => hA.elim
  | [], _ :: _, _, ps, hA, hi, μ, h, L => hA.elim
  | _ :: _, [], _, ps, hA, hi, μ, h, L => hA.elim
  | _ :: _, _ :: _, [], ps, hA, hi, μ, h, L => hA.elim
theorem law_run {X : Tab} (TB : TabOK P X) {g : FuncId} {ts : List TypeId} {args : Array Value} {ds : List (DataW H)} {ps : List MemPlace} (hA : DataW.TrodAll enc P W 0 (fun _ => true) true ts args.toList ds ps)
    {base : Nat} (hv : ∀ (j : Nat) (t : TypeId) (v : Value), ts[j]? = some t → args[j]? = some v → Value.okWide P W .any base t v)
    (hi : ∀ t ∈ ts, impTyS P 12 t = true) (run : ∀ h avs Ds, ARods P h ts avs Ds → avs.map isAgg = ts.map (aggTy P) → ∃ n h', callF X n ⟨h.size, []⟩ g avs h = some (.bool true, h')) :
    Calls P g args W fun e W' => e = .returned (.bool true) ∧ Go.RowKit.Below W.heap.size W W' := by
  obtain ⟨μ, h, L, _, _, avs, Ds, hr, ha, hsh⟩ := imp_all ts args.toList ds ps hA hi _ _ (LayR.none P W)
  obtain ⟨n, h', e⟩ := run h avs Ds ha (by rw [hsh]; exact shapes_of ts args.toList ds ps hA hi (fun j t v h1 h2 => hv j t v h1 (by rw [← h2, Array.getElem?_toList])))
  have := call_ok TB e L.st hr
  refine Calls.mono this fun e' W' hc => ?_
  obtain ⟨cv, μ', rfl, g', hv⟩ := hc
  cases hv
  exact ⟨rfl, ⟨g'.fr.os, g'.fr.tape, g'.fr.output.1, g'.fr.csize, g'.fr.clow⟩⟩
theorem law_run2 {X : Tab} (TB : TabOK P X) {g : FuncId} {ts : List TypeId} {args : Array Value} {ds : List (DataW H)} {ps : List MemPlace} (hA : DataW.TrodAll enc P W 0 (fun _ => true) true ts args.toList ds ps)
    {base : Nat} (hv : ∀ (j : Nat) (t : TypeId) (v : Value), ts[j]? = some t → args[j]? = some v → Value.okWide P W .any base t v)
    (hi : ∀ t ∈ ts, impTyS P 12 t = true) {K : List Value → Prop} (hK : ∀ μ avs, VRs μ avs args.toList → K avs) (run : ∀ h avs Ds, ARods P h ts avs Ds → avs.map isAgg = ts.map (aggTy P) → K avs → ∃ n h', callF X n ⟨h.size, []⟩ g avs h = some (.bool true, h')) :
    Calls P g args W fun e W' => e = .returned (.bool true) ∧ Go.RowKit.Below W.heap.size W W' := by
  obtain ⟨μ, h, L, _, _, avs, Ds, hr, ha, hsh⟩ := imp_all ts args.toList ds ps hA hi _ _ (LayR.none P W)
  obtain ⟨n, h', e⟩ := run h avs Ds ha (by rw [hsh]; exact shapes_of ts args.toList ds ps hA hi (fun j t v h1 h2 => hv j t v h1 (by rw [← h2, Array.getElem?_toList]))) (hK _ _ hr)
  have := call_ok TB e L.st hr
  refine Calls.mono this fun e' W' hc => ?_
  obtain ⟨cv, μ', rfl, g', hv⟩ := hc
  cases hv
  exact ⟨rfl, ⟨g'.fr.os, g'.fr.tape, g'.fr.output.1, g'.fr.csize, g'.fr.clow⟩⟩
theorem trodAll_below {W' : World} (hl : laidOutB P = true) (hb : Go.RowKit.Below W.heap.size W W') : ∀ (ts : List TypeId) (vs : List Value) (ds : List (DataW H)) (ps : List MemPlace), (∀ t ∈ ts, P.readableRec t = true ∧ t < P.types.size) →
    DataW.TrodAll enc P W 0 (fun _ => true) true ts vs ds ps → DataW.TrodAll enc P W' 0 (fun b => decide (b < W.heap.size)) true ts vs ds ps
  | [], [], [], ps, _, h => h
  | t :: ts, v :: vs, d :: ds, ps, hi, h => by
    obtain ⟨p, q, h1, h2, h3⟩ := h
    have hlt : ∀ x ∈ p, x.block < W.heap.size := by obtain ⟨m, hm⟩ := h1; exact DataW.trod_lt m _ _ _ hm
    exact ⟨p, q, Go.RowKit.Below.trod hl (hi t (by simp)).1 (hi t (by simp)).2 h1 hb hlt, trodAll_below hl hb ts vs ds q (fun u hu => hi u (by simp [hu])) h2, h3⟩
  | [], [], _ :: _, _, _, h => h.elim
  | [], _ :: _, _, _, _, h => h.elim
  | _ :: _, [], _, _, _, h => h.elim
  | _ :: _, _ :: _, [], _, _, h => h.elim
theorem tab_ok {X : Tab} (fl : FuncId → Flag) (hfn : ∀ g, X.fn g = cFn P (fl g) g) (hm : X.meth = cMeth P) (hmix : P.follows .mixedOrders = true) (hext : ∀ g s, X.ext g = some s → ExtOK P g s ∧ ∃ fn, P.funcs[g]? = some fn ∧ (fn.name == "runtime.NumGoroutine") = false ∧ fn.body.isSome) : TabOK P X := by
  refine ⟨fun g af h => ⟨fl g, by rw [← hfn]; exact h⟩, fun g h => ?_, fun t name f h => by rw [← hm]; exact h, fun g s h => (hext g s h).1, hmix⟩
  rcases h with h | h
  · rw [hfn] at h
    obtain ⟨af, haf⟩ := Option.isSome_iff_exists.1 h
    simp only [cFn, Option.pure_def, Option.bind_eq_bind, Option.bind_eq_some_iff] at haf
    obtain ⟨fn, h1, b, h2, h3⟩ := haf
    split at h3
    · cases h3
    · rename_i hn
      exact ⟨fn, h1, by simpa using hn, by rw [h2]; rfl⟩
  · obtain ⟨s, hs⟩ := Option.isSome_iff_exists.1 h
    exact (hext g s hs).2
end Go.AM
end

section
namespace Go.AM
variable {P : Program}
theorem St.grown {B0 : Nat × Nat} {κ : Ctx} {μ : Mu} {h : Heap} {w w' : World} (S : St P B0 κ μ h w) (hc : ∀ c, c < w.heap.size → w'.heap[c]? = w.heap[c]?) (hs : w.heap.size ≤ w'.heap.size) (h1 : w'.os = w.os) (h2 : w'.tape = w.tape) (h3 : w'.output = w.output ∧ w.drawn ≤ w'.drawn) :
    Go1 P B0 κ μ h w μ h w' := by
  refine ⟨⟨⟨S.hr.dom, S.hr.dead, fun b c d n k e => ?_, S.hr.inj, S.hr.lowc, ⟨S.hr.base.1, Nat.le_trans S.hr.base.2 hs⟩⟩, S.fl, S.fle, S.cle, S.ceil⟩, ?_⟩
  · obtain ⟨x, o, q1, q2, q3⟩ := S.hr.obj b c d n k e
    exact ⟨x, o, q1, by rw [hc c (S.hr.clt e)]; exact q2, q3⟩
  · exact ⟨.refl μ, Nat.le_refl _, fun b hb e => ⟨rfl, e⟩, fun b hb => ⟨rfl, rfl⟩, hs, fun c hc' e => ⟨hc c hc', e⟩, fun c hc' => hc c (Nat.lt_of_lt_of_le hc' S.hr.base.2), h1, h2, h3⟩
def sTrue (κ : Ctx) (args : List Value) (h : Heap) : Option (Value × Heap) :=
  match args with
  | [] => some (.bool true, h)
  | _ => none
theorem ext_true {X : Tab} (TB : TabOK P X) {g : FuncId} {n : Nat} (e : (callF X n ⟨0, []⟩ g [] #[]).map (·.1) = some (.bool true)) : ExtOK P g sTrue := by
  intro B0 κ args h v h' μ w cargs es S hR m
  have ha : args = [] := by cases args with | nil => rfl | cons a l => simp [sTrue] at es
  subst ha
  simp only [sTrue] at es
  cases es
  have hca := hR.nil_inv
  subst hca
  obtain ⟨⟨v1, h1⟩, e1, e2⟩ := Option.map_eq_some_iff.1 e
  simp only at e2; subst e2
  have S0 : St P (0, 0) ⟨0, []⟩ (fun _ => .un) #[] w :=
    ⟨⟨fun b hb => absurd rfl hb, fun b hb => (by cases hb), fun b c d n k e => (by cases e), fun b b' c d n k d' n' k' _ e => (by cases e), fun b c d n k e => (by cases e), ⟨Nat.zero_le _, Nat.zero_le _⟩⟩, Nat.zero_le _, Nat.zero_le _, fun c hc => (by simp at hc), fun c hc => (by simp at hc)⟩
  refine CallsIn.mono ((all_ok TB n).2.2 (0, 0) ⟨0, []⟩ g [] #[] (.bool true) h1 (fun _ => .un) w [] e1 S0 .nil m) fun e' w' hc => ?_
  obtain ⟨cv, μ', rfl, g', hv⟩ := hc
  cases hv
  exact ⟨.bool true, μ, rfl, S.grown (fun c hc => (g'.fr.cun c hc (fun b d n k e => by cases e)).1) g'.fr.csize g'.fr.os g'.fr.tape g'.fr.output, .bool true⟩
end Go.AM
end

section
namespace Go.AM
variable {P : Program} {B0 : Nat × Nat} {κ : Ctx} {μ : Mu} {h : Heap} {w : World}
theorem St.killw {b c d n k : Nat} {w' : World} (S : St P B0 κ μ h w) (hb : μ b = .at c d n k) (hfl : κ.fl ≤ b) (hw : ∀ q, q ≠ c → w'.heap[q]? = w.heap[q]?) (hs : w'.heap.size = w.heap.size)
    (h1 : w'.os = w.os) (h2 : w'.tape = w.tape) (h3 : w'.output = w.output ∧ w.drawn ≤ w'.drawn) : Go1 P B0 κ μ h w (μ.set b .dead) (h.setIfInBounds b .dead) w' := by
  have hB : B0.1 ≤ b := Nat.le_trans S.fl hfl
  have hBc := S.hr.lowc b c d n k hb hB
  obtain ⟨st, fr⟩ := S.kill hb hfl
  refine ⟨⟨⟨st.hr.dom, st.hr.dead, fun y c1 d1 n1 k1 ey => ?_, st.hr.inj, st.hr.lowc, ⟨st.hr.base.1, by rw [hs]; exact st.hr.base.2⟩⟩, st.fl, st.fle, st.cle, st.ceil⟩, ⟨fr.le, fr.size, fr.un, fr.low, by rw [hs]; exact Nat.le_refl _, fun q hq e => ?_, fun q hq => hw q (by omega), h1, h2, h3⟩⟩
  · obtain ⟨x, o, q1, q2, q3⟩ := st.hr.obj y c1 d1 n1 k1 ey
    refine ⟨x, o, q1, ?_, q3⟩
    rw [hw c1 (fun e => ?_)]; · exact q2
    subst e
    have hyb : y ≠ b := by intro e; subst e; rw [Mu.set_same] at ey; cases ey
    rw [Mu.set_ne _ _ hyb] at ey
    exact hyb (S.hr.inj _ _ _ _ _ _ _ _ _ hBc ey hb)
  · exact ⟨hw q (fun e' => e b d n k (e' ▸ hb)), (fr.cun q hq e).2⟩
def sCopy (T : TypeId) (κ : Ctx) (args : List Value) (h : Heap) : Option (Value × Heap) :=
  match args with
  | [.pointer (some a)] => if a.off ≠ 0 ∨ a.spot.isSome ∨ a.block < κ.fl then none else match h[a.block]? with
    | some (.cells [p, _] e) => if e ≠ T then none else match p with
      | .pointer none => (wr κ h a.block 0 [.pointer (some a)]).map fun h' => (.tuple #[], h')
      | .pointer (some q) => if q.block = a.block ∧ q.off = 0 ∧ q.spot = none then some (.tuple #[], h) else none
      | _ => none
    | _ => none
  | _ => none
def sString (T U : TypeId) (κ : Ctx) (args : List Value) (h : Heap) : Option (Value × Heap) :=
  match args with
  | [.pointer (some a)] => if a.off ≠ 0 ∨ a.spot.isSome ∨ a.block < κ.fl then none else match h[a.block]? with
    | some (.cells [_, v] e) => if e ≠ T then none else match v with
      | .slice none _ _ => some (.string .empty, h)
      | .slice (some g) n c => if g.spot.isSome ∨ n = 0 ∨ g.block < κ.fl ∨ n > 140737488355328 then none else match h[g.block]? with
        | some (.cells l u) => if u ≠ U then none else ((grab l g.off n).bind bytesOf).map fun bs => (.string ⟨bs.toArray⟩, h.setIfInBounds g.block .dead)
        | _ => none
      | _ => none
    | _ => none
  | _ => none
theorem addr_eq {a : Addr} (h1 : a.off = 0) (h2 : a.spot = none) : a = ⟨a.block, 0, none⟩ := by
  obtain ⟨b, o, s⟩ := a
  simp only at h1 h2
  subst h1 h2
  rfl
theorem ext_copy {g : FuncId} {T : TypeId} (hT : bldTy P T = true)
    (used : ∀ (b : Nat) (w : World), w.cell? ⟨b, 0, none⟩ = some (.pointer (some ⟨b, 0, none⟩)) → Calls P g #[.pointer (some ⟨b, 0, none⟩)] w fun e w' => e = .returned (.tuple #[]) ∧ w' = w)
    (fresh : ∀ (b : Nat) (w : World), w.cell? ⟨b, 0, none⟩ = some (.pointer none) → w.shape? b = some (T, 2) → w.frozen? ⟨b, 0, none⟩ = false →
      Calls P g #[.pointer (some ⟨b, 0, none⟩)] w fun e w' => e = .returned (.tuple #[]) ∧ w' = w.setCell ⟨b, 0, none⟩ (.pointer (some ⟨b, 0, none⟩))) : ExtOK P g (sCopy T) := by
  intro B0 κ args h v h' μ w cargs es S hR m
  unfold sCopy at es
  split at es
  · rename_i a
    split at es
    · cases es
    · rename_i hc
      simp only [ne_eq, not_or, Nat.not_lt, Classical.not_not, Bool.not_eq_true, Option.isSome_eq_false_iff, Option.isNone_iff_eq_none] at hc
      obtain ⟨ho, hsp, hfl⟩ := hc
      obtain ⟨ca, cr, rfl, hca, hcr⟩ := hR.cons_inv
      rw [hcr.nil_inv]
      rw [addr_eq ho hsp] at hca
      split at es
      · rename_i p s e hcell
        split at es
        · cases es
        · rename_i hT'
          simp only [ne_eq, Classical.not_not] at hT'
          subst hT'
          have hfin : ∃ c, ca = .pointer (some ⟨c, 0, none⟩) ∧ μ a.block = .at c 0 2 (P.cellsOf e) ∧ ∃ cc, w.heap[c]? = some (.cells cc e (0, 0)) ∧ cc.size = 2 ∧ ∃ u, cc[0]? = some u ∧ VR μ p u := by
            cases hca with
            | @ptr b o c d n k hb =>
              obtain ⟨cc, t', fz, q1, q2, q3, ⟨q4, q5⟩, q6⟩ := S.hr.cells hb hcell
              have hB : ¬ a.block < B0.1 := by have := S.fl; omega
              obtain ⟨r1, r2, r3⟩ := q4.resolve_left hB
              obtain ⟨r4, r5⟩ := r3 hT
              simp only [List.length_cons, List.length_nil] at r5
              obtain ⟨u, hu, hvr⟩ := q6 0 p rfl
              subst r1 r2 r4 r5 q5
              exact ⟨c, by simp, hb, cc, q1, q2, u, by simpa using hu, hvr⟩
            | ptrDead hb => rw [S.hr.dead _ hb] at hcell; cases hcell
          obtain ⟨c, rfl, hb, cc, hw, hsz, u, hu, hvr⟩ := hfin
          have hcl : w.cell? ⟨c, 0, none⟩ = some u := by simp [World.cell?, hw, hu]
          split at es
          · obtain ⟨h1, e1, e2⟩ := Option.map_eq_some_iff.1 es
            cases e2
            cases hvr
            have hargs : VRs μ [Value.pointer (some a)] [.pointer (some ⟨c, 0, none⟩)] := .cons (by rw [addr_eq ho hsp]; exact .ptr (o := 0) (d := 0) hb) .nil
            obtain ⟨w', r1, r2⟩ := wr_ok S e1 hb hargs
            have hfz : w.frozen? ⟨c, 0, none⟩ = false := by simp [World.frozen?, hw]
            have hst : (storeCells ⟨c, 0 + 0, none⟩ [Value.pointer (some ⟨c, 0, none⟩)]).run P w = .ok () (w.setCell ⟨c, 0, none⟩ (.pointer (some ⟨c, 0, none⟩))) := by
              simp only [storeCells, Sem.run_bind]
              rw [add_off, run_store P w _ _ .plain rfl]
              simp [hcl, hfz]
            rw [r1] at hst
            cases hst
            refine CallsIn.mono (callsIn_wide.2 (fresh c w hcl (by simp [World.shape?, hw, hsz]) hfz)) fun e' w' hc => ?_
            obtain ⟨rfl, rfl⟩ := hc
            exact ⟨_, _, rfl, r2, .tuple rfl (by simp)⟩
          · rename_i q
            split at es
            · rename_i hq
              cases es
              obtain ⟨hq1, hq2, hq3⟩ := hq
              have : u = .pointer (some ⟨c, 0, none⟩) := by
                rw [addr_eq hq2 hq3, hq1] at hvr
                cases hvr with
                | ptr hb' => rw [hb] at hb'; cases hb'; rfl
                | ptrDead hb' => rw [hb] at hb'; cases hb'
              subst this
              refine CallsIn.mono (callsIn_wide.2 (used c w hcl)) fun e' w' hc => ?_
              obtain ⟨rfl, rfl⟩ := hc
              exact ⟨_, _, rfl, .refl S, .tuple rfl (by simp)⟩
            · cases es
          · cases es
      · cases es
  · cases es
theorem bytesOf_get : ∀ {l : List Value} {bs : List UInt8}, bytesOf l = some bs → l.length = bs.length ∧ ∀ (j : Nat) (x : UInt8), bs[j]? = some x → ∃ n : Int, l[j]? = some (.int .u8 n) ∧ x = UInt8.ofNat n.toNat
  | [], bs, e => by simp [bytesOf] at e; subst e; simp
  | v :: l, bs, e => by
    simp only [bytesOf] at e
    split at e
    · rename_i b hb
      obtain ⟨bs', e1, e2⟩ := Option.map_eq_some_iff.1 e
      subst e2
      obtain ⟨q1, q2⟩ := bytesOf_get e1
      refine ⟨by simp [q1], fun j x hx => ?_⟩
      cases j with
      | zero =>
        simp at hx; subst hx
        unfold byteOf at hb
        split at hb
        · cases hb; exact ⟨_, rfl, rfl⟩
        · cases hb
      | succ j => simpa using q2 j x (by simpa using hx)
    · cases e
def strI (l : List Int) : ByteArray := ⟨(l.map fun n => n.toNat.toUInt8).toArray⟩
theorem run_loadBytes' : ∀ (l : List Int) (a : Addr) (acc : ByteArray), (∀ j n, l[j]? = some n → w.cell? (a.add j) = some (.int .u8 n)) →
    (loadBytes a acc l.length).run P w = .ok ⟨acc.data ++ (l.map fun n => n.toNat.toUInt8).toArray⟩ w
  | [], a, acc, _ => by simp [loadBytes]
  | x :: l, a, acc, h => by
    have h0 : w.cell? a = some (.int .u8 x) := by simpa [Addr.add] using h 0 x rfl
    have ih := run_loadBytes' l (a.add 1) (acc.push x.toNat.toUInt8) (fun j y hy => by
      have := h (j + 1) y (by simpa using hy)
      have e : (a.add 1).add j = a.add (j + 1) := by
        unfold Addr.add
        by_cases hj : j = 0
        · subst hj; simp
        · simp [hj]; omega
      rw [e]; exact this)
    simp only [List.length_cons, loadBytes, Sem.run_bind, run_load, h0, Result.andThen]
    rw [ih]
    congr 1
    apply ByteArray.ext
    simp [ByteArray.push]
theorem liesAt_bytes {P : Program} {e : TypeId} (hc : P.cellsOf e = 1) (count off n : Nat) (hn : off + n ≤ count) : liesAt P P.depth e count off e n = true := by
  have hd : P.depth = (2 * (P.types.size + Made.depth) + 1) + 1 := rfl
  rw [hd]
  simp only [liesAt, Bool.or_eq_true]
  left
  rw [hd]
  simp [rowAt, hc, hn, sameLayout]
  left; omega
theorem run_unsafeString_at {P : Program} (w : World) (pt it ty e : TypeId) (hp : P.underlying pt = some (.pointer e)) (hc : P.cellsOf e = 1) (g o cells : Nat) (hsh : w.shape? g = some (e, cells)) (l : List Int) (h0 : l ≠ []) (hn : o + l.length ≤ cells) (h63 : l.length ≤ 9223372036854775807)
    (hcell : ∀ j x, l[j]? = some x → w.cell? ((⟨g, o, none⟩ : Addr).add j) = some (.int .u8 x)) :
    (Builtin.unsafeString_ #[pt, it] ty #[.pointer (some ⟨g, o, none⟩), .int .i64 l.length]).run P w = .ok (.string (strI l)) (w.freeze ⟨g, o, none⟩ l.length) := by
  have hl : l.length ≠ 0 := by simpa using h0
  have hlb := run_loadBytes' (P := P) (w := w) l ⟨g, o, none⟩ .empty hcell
  have hlies := liesAt_bytes (P := P) hc (cells / P.cellsOf e) o l.length (by rw [hc]; simpa using hn)
  have h63' : ¬ (9223372036854775807 : Int) < (l.length : Int) := by omega
  have hdef : Builtin.unsafeString_ #[pt, it] ty #[.pointer (some ⟨g, o, none⟩), .int .i64 l.length] =
      (do
        let n ← asInt (.int .i64 l.length)
        if n < 0 then runtimePanic (.error "unsafe.String: len out of range")
        if n > IntKind.i64.max then unsupported (.unsafePointer "String: a length above the largest int")
        if n = 0 then pure (.string .empty)
        else if ← variablesAt ⟨g, o, none⟩ (← elemOf pt) n.toNat then do
          let s ← loadBytes ⟨g, o, none⟩ .empty n.toNat
          freeze ⟨g, o, none⟩ n.toNat
          pure (.string s)
        else unsupported (.unsafePointer "String: not so many bytes at ptr")) := rfl
  rw [hdef]
  have hmax : IntKind.i64.max = 9223372036854775807 := rfl
  have hneg : ¬ (l.length : Int) < 0 := by omega
  simp [asInt, asIntOf, hmax, h63', hneg, hl, variablesAt, hsh, elemOf, run_underlying hp, hlies, hlb, strI]
theorem ext_string {g : FuncId} {T U : TypeId} (hT : bldTy P T = true)
    (nil : ∀ (b : Nat) (p : Value) (t : TypeId) (fz : Nat × Nat) (w : World), w.heap[b]? = some (.cells #[p, .slice none 0 0] t fz) → Calls P g #[.pointer (some ⟨b, 0, none⟩)] w fun e w' => e = .returned (.string .empty) ∧ w' = w.drew)
    (row : ∀ (b g' o cap : Nat) (p : Value) (t : TypeId) (fz fz' : Nat × Nat) (cur : Array Value) (l : List Int) (w : World), l ≠ [] → l.length ≤ cap → l.length ≤ 9223372036854775807 →
      w.heap[b]? = some (.cells #[p, .slice (some ⟨g', o, none⟩) l.length cap] t fz) → w.heap[g']? = some (.cells cur U fz') → o + l.length ≤ cur.size → (∀ j x, l[j]? = some x → cur[o + j]? = some (.int .u8 x)) →
      Calls P g #[.pointer (some ⟨b, 0, none⟩)] w fun e w' => e = .returned (.string (strI l)) ∧ w' = w.drew.freeze ⟨g', o, none⟩ l.length) : ExtOK P g (sString T U) := by
  intro B0 κ args h v h' μ w cargs es S hR m
  unfold sString at es
  split at es
  · rename_i a
    split at es
    · cases es
    · rename_i hc
      simp only [ne_eq, not_or, Nat.not_lt, Classical.not_not, Bool.not_eq_true, Option.isSome_eq_false_iff, Option.isNone_iff_eq_none] at hc
      obtain ⟨ho, hsp, hfl⟩ := hc
      obtain ⟨ca, cr, rfl, hca, hcr⟩ := hR.cons_inv
      rw [hcr.nil_inv]
      rw [addr_eq ho hsp] at hca
      split at es
      · rename_i p s e hcell
        split at es
        · cases es
        · rename_i hT'
          simp only [ne_eq, Classical.not_not] at hT'
          subst hT'
          have hfin : ∃ c, ca = .pointer (some ⟨c, 0, none⟩) ∧ ∃ cp u, w.heap[c]? = some (.cells #[cp, u] e (0, 0)) ∧ VR μ s u := by
            cases hca with
            | @ptr b o c d n k hb =>
              obtain ⟨cc, t', fz, q1, q2, q3, ⟨q4, q5⟩, q6⟩ := S.hr.cells hb hcell
              have hB : ¬ a.block < B0.1 := by have := S.fl; omega
              obtain ⟨r1, r2, r3⟩ := q4.resolve_left hB
              obtain ⟨r4, r5⟩ := r3 hT
              simp only [List.length_cons, List.length_nil] at r5
              subst r1 r2 r4
              obtain ⟨u0, hu0, _⟩ := q6 0 p rfl
              obtain ⟨u1, hu1, hvr⟩ := q6 1 s rfl
              refine ⟨c, by simp, u0, u1, ?_, hvr⟩
              have : cc = #[u0, u1] := by
                apply Array.ext'
                obtain ⟨l⟩ := cc
                simp at q2 hu0 hu1
                match l with
                | [x, y] => simp at hu0 hu1; subst hu0 hu1; rfl
                | [] => simp at q2; omega
                | [x] => simp at q2; omega
                | x :: y :: z :: r => simp at q2; omega
              rw [← this]; exact q1
            | ptrDead hb => rw [S.hr.dead _ hb] at hcell; cases hcell
          obtain ⟨c, rfl, cp, u, hw, hvr⟩ := hfin
          split at es
          · rename_i n0 c0
            cases es
            cases hvr
            refine CallsIn.mono (callsIn_wide.2 (nil c cp e (0, 0) w hw)) fun e' w' hc => ?_
            obtain ⟨rfl, rfl⟩ := hc
            exact ⟨_, _, rfl, S.drew, .string _⟩
          · rename_i gg n cap
            split at es
            · cases es
            · rename_i hg
              simp only [not_or, Nat.not_lt, Bool.not_eq_true, Option.isSome_eq_false_iff, Option.isNone_iff_eq_none] at hg
              obtain ⟨g1, g2, g3, g4⟩ := hg
              split at es
              · rename_i l uu hrow
                split at es
                · cases es
                · rename_i hU
                  simp only [ne_eq, Classical.not_not] at hU
                  subst hU
                  obtain ⟨bs, eb, e2⟩ := Option.map_eq_some_iff.1 es
                  obtain ⟨r, er, eb⟩ := Option.bind_eq_some_iff.1 eb
                  cases e2
                  obtain ⟨gl, rfl⟩ := grab_some er
                  obtain ⟨b1, b2⟩ := bytesOf_get eb
                  have hrl : ((l.drop gg.off).take n).length = n := by simp; omega
                  obtain ⟨gb, go, gsp⟩ := gg
                  simp only at g1 g3 gl hrow b1 b2 hrl
                  subst g1
                  cases hvr with
                  | @sl b o len cap2 c2 d n2 k2 o' cap' hb hlc hcc hoo hrr =>
                    obtain ⟨cc, t', fz, q1, q2, q3, ⟨q4, q5⟩, q6⟩ := S.hr.cells hb hrow
                    have hB : ¬ gb < B0.1 := by have := S.fl; omega
                    obtain ⟨r1, r2, r3⟩ := q4.resolve_left hB
                    subst r2
                    have ho' : o' = go + d := by
                      rcases hoo with q | q
                      · omega
                      · exact q
                    have hget : ∀ j, j < n → ∃ z : Int, l[go + j]? = some (.int .u8 z) ∧ cc[o' + j]? = some (.int .u8 z) ∧ bs[j]? = some (UInt8.ofNat z.toNat) := fun j hj => by
                      have hjb : j < bs.length := by omega
                      obtain ⟨z, e1, e2⟩ := b2 j bs[j] (by simp [hjb])
                      rw [List.getElem?_take, if_pos hj, List.getElem?_drop] at e1
                      obtain ⟨u, hu, hv⟩ := q6 _ _ e1
                      cases hv
                      exact ⟨z, e1, by rw [ho', show go + d + j = d + (go + j) by omega]; exact hu, by simp [hjb, e2]⟩
                    obtain ⟨zs, hz1, hz2⟩ : ∃ zs : List Int, zs.length = n ∧ ∀ j z, zs[j]? = some z → cc[o' + j]? = some (.int .u8 z) ∧ bs[j]? = some (UInt8.ofNat z.toNat) := by
                      refine ⟨(List.range n).map fun j => match l[go + j]? with | some (.int .u8 z) => z | _ => 0, by simp, fun j z hz => ?_⟩
                      simp only [List.getElem?_map, Option.map_eq_some_iff] at hz
                      obtain ⟨j', hj', e⟩ := hz
                      obtain ⟨hj1, hj2⟩ := List.getElem?_eq_some_iff.1 hj'
                      simp at hj1 hj2
                      subst hj2
                      obtain ⟨z', e1, e2, e3⟩ := hget j hj1
                      rw [e1] at e
                      simp only at e
                      subst e
                      exact ⟨e2, e3⟩
                    have hstr : strI zs = ⟨bs.toArray⟩ := by
                      unfold strI
                      congr 2
                      apply List.ext_getElem?
                      intro j
                      rw [List.getElem?_map]
                      by_cases hj : j < n
                      · obtain ⟨e1, e2⟩ := hz2 j zs[j] (by simp [hz1, hj])
                        rw [e2]; simp [hz1, hj]
                      · rw [List.getElem?_eq_none (by omega), List.getElem?_eq_none (by omega)]; rfl
                    have hrow' := row c c2 o' cap' cp e (0, 0) fz cc zs w (by intro q; subst q; simp at hz1; omega) (by omega) (by omega) (by rw [hz1]; exact hw) q1 (by
                      rw [hz1]
                      obtain ⟨_, _, e2, _⟩ := hget (n - 1) (by omega)
                      have := (Array.getElem?_eq_some_iff.1 e2).1
                      omega) (fun j x hx => (hz2 j x hx).1)
                    refine CallsIn.mono (callsIn_wide.2 hrow') fun e' w' hc => ?_
                    obtain ⟨rfl, rfl⟩ := hc
                    have hfz : ∀ q, q ≠ c2 → (w.drew.freeze ⟨c2, o', none⟩ zs.length).heap[q]? = w.heap[q]? := fun q hq => by
                      unfold World.freeze
                      split
                      · rfl
                      · simp only [Array.getElem?_modify]; rw [if_neg (Ne.symm hq)]; rfl
                    have hk : Go1 P B0 κ μ h w (μ.set gb .dead) (h.setIfInBounds gb .dead) (w.drew.freeze ⟨c2, o', none⟩ zs.length) :=
                      S.killw hb g3 hfz (by unfold World.freeze; split <;> simp <;> rfl) (by unfold World.freeze; split <;> rfl) (by unfold World.freeze; split <;> rfl) (by unfold World.freeze; split <;> exact ⟨rfl, Nat.le_succ _⟩)
                    exact ⟨_, _, rfl, hk, by rw [hstr]; exact .string _⟩
                  | slDead hb _ _ => rw [S.hr.dead _ hb] at hrow; cases hrow
              · cases es
          · cases es
      · cases es
  · cases es
end Go.AM
end
