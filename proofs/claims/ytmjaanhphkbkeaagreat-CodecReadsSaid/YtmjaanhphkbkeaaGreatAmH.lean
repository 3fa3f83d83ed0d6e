import Derived.Test.YtmjaanhphkbkeaaGreatAmF
import Derived.Below
import Derived.Carry
import Derived.ChangeOld
import Derived.ProofKit
import Derived.WideShapes
set_option linter.all false
section
namespace Go.AM
set_option linter.unusedVariables false

def impTyS (P : Program) : Nat → TypeId → Bool
  | 0, _ => false
  | f + 1, t => match P.underlying t with
    | some .bool | some (.int _) | some .string => true
    | some (.slice e) => decide (0 < P.cellsOf e) && impTyS P f e
    | some (.struct fs) => tiles P fs.toList 0 (P.cellsOf t) && fs.toList.all fun x => impTyS P f x.type
    | _ => false

theorem impTy_of (P : Program) : ∀ (n : Nat) (t : TypeId), impTyS P n t = true → ∀ f, impTy P f t = true
  | 0, t, h => by simp [impTyS] at h
  | n + 1, t, h => by
    intro f
    cases f with
    | zero => rfl
    | succ f =>
      unfold impTyS at h
      unfold impTy
      split at h
      · rename_i hd; rw [hd]
      · rename_i hd; rw [hd]
      · rename_i hd; rw [hd]
      · rename_i hd
        simp only [hd, Bool.and_eq_true] at h ⊢
        exact ⟨h.1, impTy_of P n _ h.2 f⟩
      · rename_i hd
        simp only [hd, Bool.and_eq_true, List.all_eq_true] at h ⊢
        exact ⟨h.1, fun x hx => impTy_of P n _ (h.2 x hx) f⟩
      · cases h

/-- the arguments, as the abstract machine reads them -/
def ARods (P : Program) (h : Heap) : List TypeId → List Value → List Dat → Prop
  | [], [], [] => True
  | t :: ts, v :: vs, d :: ds => (∃ f, arod P h f t v.cells.toList = some d) ∧ ARods P h ts vs ds
  | _, _, _ => False

theorem ARods.mono {P : Program} {h h' : Heap} (hm : Pre h h') : ∀ {ts : List TypeId} {vs : List Value} {ds : List Dat}, ARods P h ts vs ds → ARods P h' ts vs ds
  | [], [], [], _ => trivial
  | t :: ts, v :: vs, d :: ds, ⟨⟨f, e⟩, r⟩ => ⟨⟨f, arod_mono hm f _ _ _ e⟩, ARods.mono hm r⟩
  | [], [], _ :: _, h => h.elim
  | [], _ :: _, _, h => h.elim
  | _ :: _, [], _, h => h.elim
  | _ :: _, _ :: _, [], h => h.elim

variable {H : Type} {enc : TypeId × Value → H} {P : Program} {W : World}

def isAgg : Value → Bool
  | .agg _ => true
  | _ => false
def aggTy (P : Program) (t : TypeId) : Bool := match P.underlying t with
  | some (.struct _) => true
  | _ => false
theorem isAgg_VR {μ : Mu} {a v : Value} (h : VR μ a v) : isAgg a = isAgg v := by cases h <;> rfl
theorem isAgg_okWide {t : TypeId} {v : Value} {base : Nat} {P : Program} {W : World} (hi : impTyS P 12 t = true) (h : Value.okWide P W .any base t v) : isAgg v = aggTy P t := by
  unfold impTyS at hi
  unfold aggTy
  split at hi
  · rename_i hd; obtain ⟨_, rfl⟩ := WideShapes.okWide_bool hd h; rw [hd]; rfl
  · rename_i hd; obtain ⟨_, rfl⟩ := WideShapes.okWide_int hd h; rw [hd]; rfl
  · rename_i hd; obtain ⟨_, rfl⟩ := WideShapes.okWide_string hd h; rw [hd]; rfl
  · rename_i hd; obtain ⟨_, _, _, rfl⟩ := WideShapes.okWide_slice hd h; rw [hd]; rfl
  · rename_i hd; obtain ⟨_, rfl, _⟩ := WideShapes.okWide_struct hd h; rw [hd]; rfl
  · cases hi
theorem shapes_of {base : Nat} : ∀ (ts : List TypeId) (vs : List Value) (ds : List (DataW H)) (ps : List MemPlace), DataW.TrodAll enc P W 0 (fun _ => true) true ts vs ds ps → (∀ t ∈ ts, impTyS P 12 t = true) →
    (∀ (j : Nat) (t : TypeId) (v : Value), ts[j]? = some t → vs[j]? = some v → Value.okWide P W .any base t v) → vs.map isAgg = ts.map (aggTy P)
  | [], [], [], ps, hA, hi, hv => rfl
  | t :: ts, v :: vs, d :: ds, ps, hA, hi, hv => by
    obtain ⟨p, q, _, hr, _⟩ := hA
    rw [List.map_cons, List.map_cons, isAgg_okWide (hi t (by simp)) (hv 0 t v rfl rfl), shapes_of ts vs ds q hr (fun u hu => hi u (by simp [hu])) (fun j u x h1 h2 => hv (j + 1) u x h1 h2)]
  | [], [], _ :: _, ps, hA, hi, hv => hA.elim
  | [], _ :: _, _, ps, hA, hi, hv => hA.elim
  | _ :: _, [], _, ps, hA, hi, hv => hA.elim
  | _ :: _, _ :: _, [], ps, hA, hi, hv => hA.elim

theorem cells_VR {μ : Mu} {acs : List Value} {v : Value} (hr : VRs μ acs v.cells.toList) : ∃ av, av.cells.toList = acs ∧ VR μ av v := by
  have single : v.cells = #[v] → (∀ cs, v ≠ .agg cs) → ∃ av, av.cells.toList = acs ∧ VR μ av v := by
    intro hv hna
    rw [hv] at hr
    obtain ⟨y, m', e, hy, hn⟩ : ∃ y m', acs = y :: m' ∧ VR μ y v ∧ VRs μ m' [] := by
      cases acs with
      | nil => have := hr.1; simp at this
      | cons y m' => exact ⟨y, m', rfl, hr.head, hr.tail⟩
    subst e
    have : m' = [] := by have := hn.1; cases m' with | nil => rfl | cons a l => simp at this
    subst this
    refine ⟨y, ?_, hy⟩
    cases hy <;> first | rfl | exact absurd rfl (hna _)
  cases v with
  | agg cs =>
    refine ⟨.agg acs.toArray, by simp [Value.cells], ?_⟩
    have := hr.agg
    simpa [Value.cells] using this
  | _ => exact single rfl (fun cs e => by cases e)

theorem imp_all : ∀ (ts : List TypeId) (vs : List Value) (ds : List (DataW H)) (ps : List MemPlace), DataW.TrodAll enc P W 0 (fun _ => true) true ts vs ds ps → (∀ t ∈ ts, impTyS P 12 t = true) → ∀ μ h, LayR P W μ h →
    Imp P W μ h fun μ' h' => ∃ avs Ds, VRs μ' avs vs ∧ ARods P h' ts avs Ds ∧ avs.map isAgg = vs.map isAgg
  | [], [], [], ps, hA, hi, μ, h, L => ⟨μ, h, L, .refl μ, .refl h, [], [], .nil, trivial, rfl⟩
  | t :: ts, v :: vs, d :: ds, ps, hA, hi, μ, h, L => by
    obtain ⟨p, q, ⟨fuel, hf⟩, hr, _⟩ := hA
    obtain ⟨μ1, h1, L1, le1, pre1, acs, D, r1, a1⟩ := imp fuel t _ _ hf (impTy_of P 12 t (hi t (by simp)) fuel) μ h L
    obtain ⟨μ2, h2, L2, le2, pre2, avs, Ds, r2, a2, sh2⟩ := imp_all ts vs ds q hr (fun u hu => hi u (by simp [hu])) μ1 h1 L1
    obtain ⟨av, e1, e2⟩ := cells_VR r1
    exact ⟨μ2, h2, L2, le1.trans le2, pre1.trans pre2, av :: avs, D :: Ds, .cons (e2.mono le2) r2, ⟨⟨fuel, by rw [e1]; exact arod_mono pre2 _ _ _ _ a1⟩, a2⟩, by rw [List.map_cons, List.map_cons, isAgg_VR e2, sh2]⟩
  | [], [], _ :: _, ps, hA, hi, μ, h, L => hA.elim
  | [], _ :: _, _, ps, hA, hi, μ, h, L => hA.elim
  | _ :: _, [], _, ps, hA, hi, μ, h, L => hA.elim
  | _ :: _, _ :: _, [], ps, hA, hi, μ, h, L => hA.elim

/-- **A law, run**: what the abstract machine says of whatever arguments. -/
theorem law_run {X : Tab} (TB : TabOK P X) {g : FuncId} {ts : List TypeId} {args : Array Value} {ds : List (DataW H)} {ps : List MemPlace} (hA : DataW.TrodAll enc P W 0 (fun _ => true) true ts args.toList ds ps)
    {base : Nat} (hv : ∀ (j : Nat) (t : TypeId) (v : Value), ts[j]? = some t → args[j]? = some v → Value.okWide P W .any base t v)
    (hi : ∀ t ∈ ts, impTyS P 12 t = true) (run : ∀ h avs Ds, ARods P h ts avs Ds → avs.map isAgg = ts.map (aggTy P) → ∃ n h', callF X n ⟨h.size, []⟩ g avs h = some (.bool true, h')) :
    Calls P g args W fun e W' => e = .returned (.bool true) ∧ Go.RowKit.Below W.heap.size W W' := by
  obtain ⟨μ, h, L, _, _, avs, Ds, hr, ha, hsh⟩ := imp_all ts args.toList ds ps hA hi _ _ (LayR.none P W)
  obtain ⟨n, h', e⟩ := run h avs Ds ha (by rw [hsh]; exact shapes_of ts args.toList ds ps hA hi (fun j t v h1 h2 => hv j t v h1 (by rw [← h2, Array.getElem?_toList])))
  have := call_ok TB e L.st hr
  refine Calls.mono this fun e' W' hc => ?_
  obtain ⟨cv, μ', rfl, g', hv⟩ := hc
  cases hv
  exact ⟨rfl, ⟨g'.fr.os, g'.fr.tape, g'.fr.output, g'.fr.csize, g'.fr.clow⟩⟩

theorem trodAll_below {W' : World} (hl : laidOutB P = true) (hb : Go.RowKit.Below W.heap.size W W') : ∀ (ts : List TypeId) (vs : List Value) (ds : List (DataW H)) (ps : List MemPlace), (∀ t ∈ ts, P.readableRec t = true ∧ t < P.types.size) →
    DataW.TrodAll enc P W 0 (fun _ => true) true ts vs ds ps → DataW.TrodAll enc P W' 0 (fun b => decide (b < W.heap.size)) true ts vs ds ps
  | [], [], [], ps, _, h => h
  | t :: ts, v :: vs, d :: ds, ps, hi, h => by
    obtain ⟨p, q, h1, h2, h3⟩ := h
    have hlt : ∀ x ∈ p, x.block < W.heap.size := by obtain ⟨m, hm⟩ := h1; exact DataW.trod_lt m _ _ _ hm
    exact ⟨p, q, Go.RowKit.Below.trod hl (hi t (by simp)).1 (hi t (by simp)).2 h1 hb hlt, trodAll_below hl hb ts vs ds q (fun u hu => hi u (by simp [hu])) h2, h3⟩
  | [], [], _ :: _, _, _, h => h.elim
  | [], _ :: _, _, _, _, h => h.elim
  | _ :: _, [], _, _, _, h => h.elim
  | _ :: _, _ :: _, [], _, _, h => h.elim

/-- which functions there are, by the text alone; the rest by contracts -/
theorem tab_ok {X : Tab} (fl : FuncId → Flag) (hfn : ∀ g, X.fn g = cFn P (fl g) g) (hm : X.meth = cMeth P) (hmix : P.follows .mixedOrders = true) (hext : ∀ g s, X.ext g = some s → ExtOK P g s ∧ ∃ fn, P.funcs[g]? = some fn ∧ (fn.name == "runtime.NumGoroutine") = false ∧ fn.body.isSome) : TabOK P X := by
  refine ⟨fun g af h => ⟨fl g, by rw [← hfn]; exact h⟩, fun g h => ?_, fun t name f h => by rw [← hm]; exact h, fun g s h => (hext g s h).1, hmix⟩
  rcases h with h | h
  · rw [hfn] at h
    obtain ⟨af, haf⟩ := Option.isSome_iff_exists.1 h
    simp only [cFn, Option.pure_def, Option.bind_eq_bind, Option.bind_eq_some_iff] at haf
    obtain ⟨fn, h1, b, h2, h3⟩ := haf
    split at h3
    · cases h3
    · rename_i hn
      exact ⟨fn, h1, by simpa using hn, by rw [h2]; rfl⟩
  · obtain ⟨s, hs⟩ := Option.isSome_iff_exists.1 h
    exact (hext g s hs).2

end Go.AM
end

section
namespace Go.AM
set_option linter.unusedVariables false

variable {P : Program}

/-- a world that has but grown -/
theorem St.grown {B0 : Nat × Nat} {κ : Ctx} {μ : Mu} {h : Heap} {w w' : World} (S : St P B0 κ μ h w) (hc : ∀ c, c < w.heap.size → w'.heap[c]? = w.heap[c]?) (hs : w.heap.size ≤ w'.heap.size) (h1 : w'.os = w.os) (h2 : w'.tape = w.tape) (h3 : w'.output = w.output) :
    Go1 P B0 κ μ h w μ h w' := by
  refine ⟨⟨⟨S.hr.dom, S.hr.dead, fun b c d n k e => ?_, S.hr.inj, S.hr.lowc, ⟨S.hr.base.1, Nat.le_trans S.hr.base.2 hs⟩⟩, S.fl, S.fle, S.cle, S.ceil⟩, ?_⟩
  · obtain ⟨x, o, q1, q2, q3⟩ := S.hr.obj b c d n k e
    exact ⟨x, o, q1, by rw [hc c (S.hr.clt e)]; exact q2, q3⟩
  · exact ⟨.refl μ, Nat.le_refl _, fun b hb e => ⟨rfl, e⟩, fun b hb => ⟨rfl, rfl⟩, hs, fun c hc' e => ⟨hc c hc', e⟩, fun c hc' => hc c (Nat.lt_of_lt_of_le hc' S.hr.base.2), h1, h2, h3⟩

def sTrue (κ : Ctx) (args : List Value) (h : Heap) : Option (Value × Heap) :=
  match args with
  | [] => some (.bool true, h)
  | _ => none

/-- **A function without arguments that the abstract machine sees to be true.** -/
theorem ext_true {X : Tab} (TB : TabOK P X) {g : FuncId} {n : Nat} (e : (callF X n ⟨0, []⟩ g [] #[]).map (·.1) = some (.bool true)) : ExtOK P g sTrue := by
  intro B0 κ args h v h' μ w cargs es S hR m
  have ha : args = [] := by cases args with | nil => rfl | cons a l => simp [sTrue] at es
  subst ha
  simp only [sTrue] at es
  cases es
  have hca := hR.nil_inv
  subst hca
  obtain ⟨⟨v1, h1⟩, e1, e2⟩ := Option.map_eq_some_iff.1 e
  simp only at e2; subst e2
  have S0 : St P (0, 0) ⟨0, []⟩ (fun _ => .un) #[] w :=
    ⟨⟨fun b hb => absurd rfl hb, fun b hb => (by cases hb), fun b c d n k e => (by cases e), fun b b' c d n k d' n' k' _ e => (by cases e), fun b c d n k e => (by cases e), ⟨Nat.zero_le _, Nat.zero_le _⟩⟩, Nat.zero_le _, Nat.zero_le _, fun c hc => (by simp at hc), fun c hc => (by simp at hc)⟩
  refine CallsIn.mono ((all_ok TB n).2.2 (0, 0) ⟨0, []⟩ g [] #[] (.bool true) h1 (fun _ => .un) w [] e1 S0 .nil m) fun e' w' hc => ?_
  obtain ⟨cv, μ', rfl, g', hv⟩ := hc
  cases hv
  exact ⟨.bool true, μ, rfl, S.grown (fun c hc => (g'.fr.cun c hc (fun b d n k e => by cases e)).1) g'.fr.csize g'.fr.os g'.fr.tape g'.fr.output, .bool true⟩

end Go.AM
end
