import Derived.Test.YtlgbeekhaoiggaaAmI
import Derived.Test.YtlgbeekhaoiggaaAmG
import Derived.Test.YtlgbeekhaoiggaaAmH
import Derived.Shelf.SlSortCmp.WholeK
import Derived.Shelf.SlSortCmp.NoneTotal
set_option linter.all false
section
namespace Go.AM
/-! ### loops over functions
A function that goes through things (an iterator) calls 'yield' for each; the body of the loop is run in between. The body owns some blocks: those of W (laid ahead), and those of B (laid by it meanwhile); all others that were there it leaves alone. What the body holds to hangs on what lay ahead (below m), and on B, alone. -/
variable {X : Tab} {κ : Ctx}
structure Body (X : Tab) (κ : Ctx) (m L n : Nat) (arg : Nat → List Value) (W : List Nat) (I : Nat → List Nat → Heap → Prop) (J : List Nat → Heap → Prop) : Prop where
  keep : ∀ k B h h2, I k B h → h.size ≤ h2.size → (∀ b, b < h.size → b < m ∨ b ∈ B → h2[b]? = h[b]?) → I k B h2
  keepJ : ∀ B h h2, J B h → h.size ≤ h2.size → (∀ b, b < h.size → b < m ∨ b ∈ B → h2[b]? = h[b]?) → J B h2
  lt : ∀ k B h, I k B h → ∀ b ∈ B, b < h.size
  step : ∀ k B h, k < n → I k B h → m ≤ h.size → ∃ v h' B', RunsV X κ (.func (.yield L) #[] #[]) (arg k) h v h' ∧ h.size ≤ h'.size ∧ (∀ b, b < h.size → b ∉ W → b ∉ B → h'[b]? = h[b]?) ∧ (∀ b ∈ B', b ∈ B ∨ h.size ≤ b) ∧
    ((v = .bool true ∧ I (k + 1) B' h') ∨ (v = .bool false ∧ J B' h'))
def IterOK (X : Tab) (κ : Ctx) (g : FuncId) (first cap : List Value) (h : Heap) (Z : Nat → Prop) (n : Nat) (arg : Nat → List Value) : Prop :=
  ∀ L W I J, (∀ b ∈ W, b < h.size ∧ ¬ Z b) → Body X κ h.size L n arg W I J → I 0 [] h → callR X κ g (first ++ [.func (.yield L) #[] #[]] ++ cap) h (fun _ h1 => h.size ≤ h1.size ∧ ((∃ B, I n B h1) ∨ ∃ B, J B h1))
theorem RunsV_yield {L : Nat} {st : LoopState} {pd : AExit} {e0 : Env} {ps : List Nat} {asg body : ACode} {args : List Value} {h : Heap} {R : Value → Heap → Prop} (hL : h[L]? = some (.loop ⟨st, pd, e0, ps, asg, body⟩)) (hf : κ.fl ≤ L) (hp : ps.length = args.length)
    (q : Ok X κ asg (setPs e0 (ps.zip args)) h fun ex e1 h1 => ex = .normal ∧ ∃ lp1, h1[L]? = some (.loop lp1) ∧ lp1.state = .ready ∧ Ok X κ body e1 (h1.setIfInBounds L (.loop { lp1 with state := .busy })) fun ex _ h2 => ∃ lp2, h2[L]? = some (.loop lp2) ∧
      ((ex = .normal ∧ R (.bool true) (h2.setIfInBounds L (.loop { lp2 with state := .ready, pending := .normal }))) ∨ (ex ≠ .normal ∧ R (.bool false) (h2.setIfInBounds L (.loop { lp2 with state := .done, pending := ex }))))) :
    ∃ v h', RunsV X κ (.func (.yield L) #[] #[]) args h v h' ∧ R v h' := by
  obtain ⟨n, ex, e1, h1, ev, rfl, lp1, q1, q2, m, ex2, e2, h2, ev2, lp2, q3, q4⟩ := q
  have ev' := exec_more (Nat.le_max_left n m) ev
  have ev2' := exec_more (Nat.le_max_right n m) ev2
  rcases q4 with ⟨rfl, r⟩ | ⟨hne, r⟩
  · refine ⟨_, _, ⟨max n m + 1, ?_⟩, r⟩
    rw [callV]
    simp only [hL, hf, hp, decide_true, beq_self_eq_true, Bool.and_self, if_true, ev', q1, q2, ev2', q3]
  · refine ⟨_, _, ⟨max n m + 1, ?_⟩, r⟩
    rw [callV]
    simp only [hL, hf, hp, decide_true, beq_self_eq_true, Bool.and_self, if_true, ev', q1, q2, ev2', q3]
theorem Ok_rangeF {f : Opd} {ps : List Nat} {asg body : ACode} {e : Env} {h : Heap} {Q : AExit → Env → Heap → Prop} {g : FuncId} {first cap : Array Value} (hf : f.val e = .func (.func g) first cap)
    (q : callR X κ g (first.toList ++ [.func (.yield h.size) #[] #[]] ++ cap.toList) (h.push (.loop ⟨.ready, .normal, e, ps, asg, body⟩)) fun _ h1 => ∃ lp, h1[h.size]? = some (.loop lp) ∧ lp.state ≠ .busy ∧ Q lp.pending e (h1.setIfInBounds h.size (.loop { lp with state := .exhausted }))) :
    Ok X κ (.rangeF f ps asg body) e h Q := by
  obtain ⟨v, h1, ⟨n, ev⟩, lp, q1, q2, q3⟩ := q
  refine ⟨n + 1, _, _, _, ?_, q3⟩
  rw [exec]
  simp only [hf, ev, q1, if_neg q2]
theorem Run_range {f : Opd} {ps : List Nat} {asg body : ACode} {e : Env} {h : Heap} {K : List Frame} {p : Ph K} {g : FuncId} {first cap : Array Value} {Z : Nat → Prop} {n : Nat} {arg : Nat → List Value} (hf : f.val e = .func (.func g) first cap)
    (it : IterOK X κ g first.toList cap.toList (h.push (.loop ⟨.ready, .normal, e, ps, asg, body⟩)) Z n arg) (W : List Nat) (hW : ∀ b ∈ W, b < h.size ∧ ¬ Z b) (hZ : ¬ Z h.size) (hfl : κ.fl ≤ h.size) (hps : ∀ k, k < n → ps.length = (arg k).length)
    (P : Nat → List Nat → Heap → Prop) (keep : ∀ k B h1 h2, P k B h1 → h1.size ≤ h2.size → (∀ b, b < h1.size → b < h.size ∨ b ∈ B → h2[b]? = h1[b]?) → P k B h2) (lt : ∀ k B h1, P k B h1 → ∀ b ∈ B, h.size < b ∧ b < h1.size)
    (start : P 0 [] h)
    (step : ∀ k B h1, k < n → P k B h1 → h.size < h1.size → h1[h.size]? = some (.loop ⟨.ready, .normal, e, ps, asg, body⟩) →
      Run X κ asg (setPs e (ps.zip (arg k))) h1 [.fin fun ex e1 h2 => ex = .normal ∧ h2[h.size]? = some (.loop ⟨.ready, .normal, e, ps, asg, body⟩) ∧
        Run X κ body e1 (h2.setIfInBounds h.size (.loop ⟨.busy, .normal, e, ps, asg, body⟩)) [.fin fun ex _ h3 => ex = .normal ∧ h3[h.size]? = some (.loop ⟨.busy, .normal, e, ps, asg, body⟩) ∧ h1.size ≤ h3.size ∧
          (∀ b, b < h1.size → b ≠ h.size → b ∉ W → b ∉ B → h3[b]? = h1[b]?) ∧ ∃ B', (∀ b ∈ B', b ∈ B ∨ h1.size ≤ b) ∧ P (k + 1) B' h3] ⟨⟩] ⟨⟩)
    (fin : ∀ B h1, P n B h1 → h.size < h1.size → Ret X κ .normal e (h1.setIfInBounds h.size (.loop ⟨.exhausted, .normal, e, ps, asg, body⟩)) K ⟨⟩) : Run X κ (.rangeF f ps asg body) e h K p := by
  refine Ok_rangeF hf ?_
  have hsz : (h.push (.loop ⟨.ready, .normal, e, ps, asg, body⟩)).size = h.size + 1 := by simp
  have bod : Body X κ (h.push (.loop ⟨.ready, .normal, e, ps, asg, body⟩)).size h.size n arg (h.size :: W) (fun k B h1 => P k B h1 ∧ h.size < h1.size ∧ h1[h.size]? = some (.loop ⟨.ready, .normal, e, ps, asg, body⟩)) (fun _ _ => False) := by
    refine ⟨fun k B h1 h2 ⟨a, b, c⟩ hs hk => ⟨keep k B h1 h2 a hs (fun y hy q => hk y hy (q.imp (fun q => by omega) id)), by omega, by rw [hk _ b (.inl (by omega))]; exact c⟩, fun _ _ _ q => q.elim, fun k B h1 ⟨a, _, _⟩ y hy => (lt k B h1 a y hy).2, fun k B h1 hk ⟨a, b, c⟩ hm => ?_⟩
    have hst := step k B h1 hk a b c
    obtain ⟨v, h', r, q1, q2, B', q3, q4, rfl⟩ := RunsV_yield (R := fun v h' => h1.size ≤ h'.size ∧ (∀ b, b < h1.size → b ∉ h.size :: W → b ∉ B → h'[b]? = h1[b]?) ∧ ∃ B', (∀ b ∈ B', b ∈ B ∨ h1.size ≤ b) ∧ (P (k + 1) B' h' ∧ h.size < h'.size ∧ h'[h.size]? = some (.loop ⟨.ready, .normal, e, ps, asg, body⟩)) ∧ v = .bool true) c hfl (hps k hk) (by
      refine Ok.mono (fun ex e1 h2 q => ?_) hst
      obtain ⟨q1, q2, q3⟩ := (q : _ ∧ _)
      refine ⟨q1, _, q2, rfl, Ok.mono (fun ex e1 h3 q => ?_) q3⟩
      obtain ⟨r1, r2, r3, r4, B', r5, r6⟩ := (q : _ ∧ _)
      have hlt := (Array.getElem?_eq_some_iff.1 r2).1
      refine ⟨_, r2, .inl ⟨r1, by simp; exact r3, fun b hb hw hB => ?_, B', r5, ⟨keep _ _ _ _ r6 (by simp) (fun y hy q => ?_), by simp; omega, ?_⟩, rfl⟩⟩
      · simp only [List.mem_cons, not_or] at hw
        rw [Array.getElem?_setIfInBounds, if_neg (fun q => hw.1 q.symm)]; exact r4 b hb hw.1 hw.2 hB
      · rw [Array.getElem?_setIfInBounds, if_neg]
        intro q2
        subst q2
        rcases q with q | q
        · omega
        · have := (lt _ _ _ r6 _ q).1; omega
      · rw [Array.getElem?_setIfInBounds, if_pos rfl, if_pos hlt])
    exact ⟨_, h', B', r, q1, q2, q3, .inl ⟨rfl, q4⟩⟩
  have i0 : P 0 [] (h.push (.loop ⟨.ready, .normal, e, ps, asg, body⟩)) := keep 0 [] h _ start (by simp) (fun b hb _ => by rw [Array.getElem?_push, if_neg (by omega)])
  refine callR.mono (it h.size (h.size :: W) _ _ (fun b hb => ?_) bod ⟨i0, by simp, by simp⟩) fun v h1 ⟨hs, q⟩ => ?_
  · rcases List.mem_cons.1 hb with rfl | hb
    · exact ⟨by simp, hZ⟩
    · have := hW b hb; exact ⟨by simp; omega, this.2⟩
  · rcases q with ⟨B, a, b, c⟩ | ⟨_, q⟩
    · exact ⟨_, c, by simp, fin B h1 a b⟩
    · exact q.elim
theorem Run_env {c : ACode} {e : Env} {h : Heap} {K : List Frame} {p : Ph K} (P : Env → Prop) (hp : P e) (k : ∀ e, P e → Run X κ c e h K p) : Run X κ c e h K p := k e hp
theorem Run_fo {c : ACode} {e : Env} {h : Heap} {Q : AExit → Env → Heap → Prop} (k : ∀ Q' : AExit → Env → Heap → Prop, (∀ ex e h, Q ex e h → Q' ex e h) → Run X κ c e h [.fin Q'] ⟨⟩) : Run X κ c e h [.fin Q] ⟨⟩ := k Q fun _ _ _ q => q
theorem push_at {h : Heap} {x : AObj} {b : Nat} (hb : b = h.size) : (h.push x)[b]? = some x := by subst hb; simp
theorem push_lt {h : Heap} {x : AObj} {b : Nat} (hb : b < h.size) : (h.push x)[b]? = h[b]? := by rw [Array.getElem?_push, if_neg (by omega)]
@[simp] theorem cells_func {f : Fn} {a b : Array Value} : (Value.func f a b).cells = #[.func f a b] := rfl
@[simp] theorem cells_iface {t : TypeId} {v : Value} : (Value.iface t v).cells = #[.iface t v] := rfl
@[simp] theorem one_func {f : Fn} {a b : Array Value} : one (Value.func f a b) = true := rfl
@[simp] theorem one_iface {t : TypeId} {v : Value} : one (Value.iface t v) = true := rfl
@[simp] theorem one_map {a : Option Nat} : one (Value.map a) = true := rfl
@[simp] theorem cells_nilIface : Value.nilIface.cells = #[.nilIface] := rfl
@[simp] theorem one_nilIface : one .nilIface = true := rfl
@[simp] theorem cells_nilFunc : Value.nilFunc.cells = #[.nilFunc] := rfl
@[simp] theorem one_nilFunc : one .nilFunc = true := rfl
theorem callLo {g : FuncId} {nt : Nat} {body : ACode} {rs : List ARes} {av : List Value} {h : Heap} {R : Value → Heap → Prop} (he : X.ext g = none) (hf : X.fn g = some ⟨nt, body, rs, .plain⟩)
    (hb : ∀ R' : Value → Heap → Prop, (∀ v h', R v h' → R' v h') → Run X κ body (env0 av) h [.lend rs R'] ⟨⟩) : callR X κ g av h R := callL he hf (hb R fun _ _ q => q)
theorem callPo {g : FuncId} {nt : Nat} {body : ACode} {rs : List ARes} {av : List Value} {h : Heap} {R : Value → Heap → Prop} {f : Nat} (he : X.ext g = none) (hf : X.fn g = some ⟨nt, body, rs, .pure⟩)
    (hb : ∀ R' : Value → Heap → Prop, (∀ v h', R v h' → R' v h') → Run X ⟨h.size, []⟩ body (env0 av) h [.pend rs h R'] ⟨⟩) : callR X ⟨f, []⟩ g av h R := callP he hf (hb R fun _ _ q => q)
theorem RCall_by {f : Value} {args : List Value} {d : Option Nat} {is : List AIns} {e : Env} {h : Heap} {K : List Frame} {p : Ph (is, K)} {v : Value} {h' : Heap} (r : RunsV X κ f args h v h') (q : RIs X κ is (put e d v) h' K ⟨⟩) : RCall X κ f args d is e h K p := ⟨v, h', r, q⟩
end Go.AM
end

section
namespace Go.AM
structure Tab.le (X Y : Tab) : Prop where
  ext : ∀ g s, X.ext g = some s → Y.ext g = some s
  fn : ∀ g f, X.ext g = none → X.fn g = some f → Y.ext g = none ∧ Y.fn g = some f
  meth : X.meth = Y.meth
theorem tab_all {X Y : Tab} (L : Tab.le X Y) : ∀ n,
    (∀ κ c env h r, exec X n κ c env h = some r → exec Y n κ c env h = some r) ∧
    (∀ κ, CallT.le (callV X n κ) (callV Y n κ)) ∧
    (∀ κ g a h r, callF X n κ g a h = some r → callF Y n κ g a h = some r)
  | 0 => ⟨fun κ c env h r e => by simp [exec] at e, fun κ f a h r e => by simp [callV] at e, fun κ g a h r e => by simp [callF] at e⟩
  | n + 1 => by
    obtain ⟨hE, hV, hF⟩ := tab_all L n
    refine ⟨fun κ c env h r e => ?_, fun κ f a h r e => ?_, fun κ g a h r e => ?_⟩
    · cases c with
      | skip => simpa [exec] using e
      | exit id => simpa [exec] using e
      | ret => simpa [exec] using e
      | reg is =>
        simp only [exec, L.meth] at e ⊢
        obtain ⟨x, hx, e2⟩ := Option.map_eq_some_iff.1 e
        rw [aReg_mono (hV κ) hx]; exact congrArg some e2
      | regD is plan =>
        simp only [exec, L.meth] at e ⊢
        obtain ⟨x, hx, e2⟩ := Option.map_eq_some_iff.1 e
        rw [aRegD_mono (hV κ) hx]; exact congrArg some e2
      | seq a b =>
        rw [exec] at e ⊢
        cases he : exec X n κ a env h with
        | none => rw [he] at e; cases e
        | some p =>
          obtain ⟨ex, e1, h1⟩ := p
          rw [he] at e
          rw [hE _ _ _ _ _ he]
          cases ex with
          | normal => exact hE _ _ _ _ _ e
          | exit id => exact e
          | ret => exact e
      | cond c a b =>
        rw [exec] at e ⊢
        split at e
        · exact hE _ _ _ _ _ e
        · cases e
      | block id a =>
        rw [exec] at e ⊢
        cases he : exec X n κ a env h with
        | none => rw [he] at e; cases e
        | some p => rw [he] at e; rw [hE _ _ _ _ _ he]; exact e
      | loop a =>
        rw [exec] at e ⊢
        cases he : exec X n κ a env h with
        | none => rw [he] at e; cases e
        | some p =>
          obtain ⟨ex, e1, h1⟩ := p
          rw [he] at e
          rw [hE _ _ _ _ _ he]
          cases ex with
          | normal => exact hE _ _ _ _ _ e
          | exit id => exact e
          | ret => exact e
      | rangeF f ps asg body =>
        rw [exec] at e ⊢
        split at e
        · rename_i g first cap hf
          cases he : callF X n κ g (first.toList ++ [.func (.yield h.size) #[] #[]] ++ cap.toList) (h.push (.loop ⟨.ready, .normal, env, ps, asg, body⟩)) with
          | none => rw [he] at e; cases e
          | some p => rw [he] at e; rw [hF _ _ _ _ _ he]; exact e
        · cases e
    · cases f with
      | func fn first cap =>
        cases fn with
        | func g => rw [callV] at e ⊢; exact hF _ _ _ _ _ e
        | yield l =>
          rw [callV] at e ⊢
          try dsimp only at e ⊢
          split at e
          · rename_i lp hlp
            split at e
            · rename_i hc
              rw [if_pos hc]
              cases he : exec X n κ lp.asg (setPs lp.env (lp.ps.zip a)) h with
              | none => rw [he] at e; cases e
              | some p =>
                obtain ⟨ex, e1, h1⟩ := p
                rw [he] at e
                rw [hE _ _ _ _ _ he]
                cases ex with
                | normal =>
                  dsimp only at e ⊢
                  split at e
                  · rename_i lp1 hlp1
                    split at e
                    · rename_i hst
                      rw [if_pos hst]
                      cases he2 : exec X n κ lp.body e1 (h1.setIfInBounds l (.loop { lp1 with state := .busy })) with
                      | none => rw [he2] at e; cases e
                      | some p2 => rw [he2] at e; rw [hE _ _ _ _ _ he2]; exact e
                    · cases e
                  · cases e
                | exit id => cases e
                | ret => cases e
            · cases e
          · cases e
        | _ => simp [callV] at e
      | _ => simp [callV] at e
    · rw [callF] at e ⊢
      cases hx : X.ext g with
      | some s => rw [hx] at e; rw [L.ext g s hx]; exact e
      | none =>
        rw [hx] at e
        try dsimp only at e ⊢
        cases hfn : X.fn g with
        | none => rw [hfn] at e; cases e
        | some fn =>
          obtain ⟨q1, q2⟩ := L.fn g fn hx hfn
          rw [q1, q2]
          rw [hfn] at e
          try dsimp only at e ⊢
          cases he : exec X n (fn.flag.ctx κ h.size) fn.body (env0 a) h with
          | none => rw [he] at e; cases e
          | some p => rw [he] at e; rw [hE _ _ _ _ _ he]; exact e
theorem Runs.up {X Y : Tab} (L : Tab.le X Y) {κ : Ctx} {g : FuncId} {a : List Value} {h h' : Heap} {v : Value} (r : Runs X κ g a h v h') : Runs Y κ g a h v h' := by
  obtain ⟨n, e⟩ := r; exact ⟨n, (tab_all L n).2.2 _ _ _ _ _ e⟩
theorem callR.up {X Y : Tab} (L : Tab.le X Y) {κ : Ctx} {g : FuncId} {a : List Value} {h : Heap} {R : Value → Heap → Prop} (r : callR X κ g a h R) : callR Y κ g a h R := by
  obtain ⟨v, h', r, q⟩ := r; exact ⟨v, h', r.up L, q⟩
end Go.AM
end

section
namespace Go.AM
open Go.Proofs Go.Shelf Go.Sort
variable {P : Program} {α : Type} [Inhabited α]
section
variable {X0 : Tab} {g : FuncId} {enc : α → List Value} {k : Nat} {cf : α → α → Int}
theorem ints_VR {μ : Mu} : ∀ {l : List Value}, (∀ v ∈ l, ∃ q m, v = .int q m) → VRs μ l l
  | [], _ => .nil
  | v :: l, hl => by obtain ⟨q, m, rfl⟩ := hl v (by simp); exact .cons (.int q m) (ints_VR fun v hv => hl v (by simp [hv]))
omit [Inhabited α] in
theorem cmpLays_of [Inhabited α] (TB : TabOK P X0) (hint : ∀ x, ∀ v ∈ enc x, ∃ q m, v = .int q m) (hc : ∀ x y, Runs X0 ⟨0, []⟩ g [.agg (enc x).toArray, .agg (enc y).toArray] #[] (.int .i64 (cf x y)) #[]) (blk off size : Nat) (w : World) :
    CmpLays P g #[] enc k cf blk off size w := by
  intro m os dk hs x y
  obtain ⟨n, e1⟩ := hc x y
  generalize sortWorldK enc k w blk off m dk os = W
  have S0 : St P (0, 0) ⟨0, []⟩ (fun _ => .un) #[] W :=
    ⟨⟨fun b hb => absurd rfl hb, fun b hb => (by cases hb), fun b c d n k e => (by cases e), fun b b' c d n k d' n' k' _ e => (by cases e), fun b c d n k e => (by cases e), ⟨Nat.zero_le _, Nat.zero_le _⟩⟩, Nat.zero_le _, Nat.zero_le _, fun c hc => (by simp at hc), fun c hc => (by simp at hc)⟩
  refine callsIn_wide.1 (CallsIn.mono ((all_ok TB n).2.2 (0, 0) ⟨0, []⟩ g _ #[] _ #[] (fun _ => .un) W [.agg (enc x).toArray, .agg (enc y).toArray] e1 S0 (.cons (ints_VR (hint x)).agg (.cons (ints_VR (hint y)).agg .nil)) 0) fun e' w' hc => ?_)
  obtain ⟨cv, μ', rfl, g', hv⟩ := hc
  cases hv
  refine ⟨rfl, w'.drawn - W.drawn, w'.heap.extract W.heap.size w'.heap.size, ?_⟩
  have f := g'.fr
  have hd := f.output.2
  obtain ⟨hp, tp, dr, os', out⟩ := w'
  obtain ⟨hp0, tp0, dr0, os0, out0⟩ := W
  simp only [grow, World.drewN]
  have e1 := f.os; have e2 := f.tape; have e3 := f.output.1; have e4 := f.csize
  simp only at e1 e2 e3 e4 hd ⊢
  rw [e1, e2, e3, Nat.add_sub_cancel' hd]
  congr 1
  apply Array.ext_getElem?
  intro c
  rw [Array.getElem?_append]
  by_cases hc : c < hp0.size
  · rw [if_pos hc]; exact (f.cun c hc (fun b d n k e => by cases e)).1
  · rw [if_neg hc, Array.getElem?_extract]
    by_cases hc2 : c < hp.size
    · rw [if_pos (by omega), show hp0.size + (c - hp0.size) = c by omega]
    · rw [if_neg (by omega), Array.getElem?_eq_none (by omega)]
end
def decs (dec : List Value → Option α) (k : Nat) : Nat → List Value → Option (List α)
  | 0, _ => some []
  | n + 1, l => match dec (l.take k), decs dec k n (l.drop k) with
    | some x, some xs => some (x :: xs)
    | _, _ => none
omit [Inhabited α] in
theorem decs_of {enc : α → List Value} {dec : List Value → Option α} {k : Nat} (hd : ∀ l x, dec l = some x → l = enc x) : ∀ (n : Nat) (l : List Value) (xs : List α), l.length = n * k → decs dec k n l = some xs → l = elems enc xs ∧ xs.length = n
  | 0, l, xs, hl, e => by simp only [decs] at e; cases e; simp at hl; simp [hl]
  | n + 1, l, xs, hl, e => by
    simp only [decs] at e
    split at e
    · rename_i x ys h1 h2
      cases e
      rw [Nat.add_mul, Nat.one_mul] at hl
      obtain ⟨q1, q2⟩ := decs_of hd n (l.drop k) ys (by rw [List.length_drop]; omega) h2
      refine ⟨?_, by simp [q2]⟩
      rw [elems_cons, ← hd _ _ h1, ← q1, List.take_append_drop]
    · cases e
omit [Inhabited α] in
theorem decs_enc {enc : α → List Value} {dec : List Value → Option α} {k : Nat} (hk : ∀ x, (enc x).length = k) (hd : ∀ x, dec (enc x) = some x) : ∀ (xs : List α), decs dec k xs.length (elems enc xs) = some xs
  | [] => rfl
  | x :: xs => by
    rw [List.length_cons, decs, elems_cons, show (enc x ++ elems enc xs).take k = enc x by rw [← hk x, List.take_left], show (enc x ++ elems enc xs).drop k = elems enc xs by rw [← hk x, List.drop_left], hd, decs_enc hk hd xs]
def sortL (cf : α → α → Int) (xs : List α) : List α := (pdq (ltOf cf) xs.toArray 0 xs.length (Lib.bitLen xs.length) true true).toList
def sSort (enc : α → List Value) (dec : List Value → Option α) (k : Nat) (cf : α → α → Int) (cmp : FuncId) (κ : Ctx) (args : List Value) (h : Heap) : Option (Value × Heap) :=
  match args with
  | [.slice a n c, .func (.func g) f1 f2] => if n = 0 then some (.tuple #[], h) else if g = cmp ∧ f1.size = 0 ∧ f2.size = 0 ∧ n < 4611686018427387904 then match a with
    | some a => if a.spot.isSome then none else match h[a.block]? with
      | some (.cells l e) => match (grab l a.off (n * k)).bind (decs dec k n) with
        | some xs => (wr κ h a.block a.off (elems enc (sortL cf xs))).map fun h' => (.tuple #[], h')
        | none => none
      | _ => none
    | none => none else none
  | _ => none
theorem sortL_len {cf : α → α → Int} (hO : SWO (ltOf cf)) (xs : List α) : (sortL cf xs).length = xs.length := by
  have h := pdq_sorts (ltOf cf) hO xs.toArray 0 xs.length (Lib.bitLen xs.length) true true (Nat.zero_le _) (by simp) (Or.inl rfl)
  have := h.1.1
  simpa [sortL] using this
theorem sortL_perm {cf : α → α → Int} (hO : SWO (ltOf cf)) (xs : List α) : (sortL cf xs).Perm xs := by
  have h := pdq_sorts (ltOf cf) hO xs.toArray 0 xs.length (Lib.bitLen xs.length) true true (Nat.zero_le _) (by simp) (Or.inl rfl)
  have hp := h.1.2.2
  have hs := h.1.1
  simp only [List.size_toArray] at hs
  have key : ∀ D : Array α, D.size = xs.length → D.extract 0 xs.length = D := fun D hD => by rw [← hD]; simp
  rw [key _ hs] at hp
  simpa [sortL] using hp
theorem sortL_sorted {cf : α → α → Int} (hO : SWO (ltOf cf)) (xs : List α) : (sortL cf xs).Pairwise fun x y => ltOf cf y x = false := by
  have h := pdq_sorts (ltOf cf) hO xs.toArray 0 xs.length (Lib.bitLen xs.length) true true (Nat.zero_le _) (by simp) (Or.inl rfl)
  have hs := h.1.1
  simp only [List.size_toArray] at hs
  rw [List.pairwise_iff_getElem]
  intro i j hi hj hij
  have h2 := h.2 i j (Nat.zero_le _) hij (by rw [sortL_len hO] at hj; exact hj)
  have hget : ∀ t (ht : t < (sortL cf xs).length), (pdq (ltOf cf) xs.toArray 0 xs.length (Lib.bitLen xs.length) true true)[t]! = (sortL cf xs)[t] := fun t ht => by
    have : t < (pdq (ltOf cf) xs.toArray 0 xs.length (Lib.bitLen xs.length) true true).size := by simpa [sortL] using ht
    rw [getElem!_pos _ t this]; simp [sortL]
  rw [hget j hj, hget i hi] at h2
  exact h2
theorem flatK_list {enc : α → List Value} {k : Nat} (hk : ∀ x, (enc x).length = k) (d : Array α) : (flatK enc k d).toList = elems enc d.toList := by
  apply List.ext_getElem?
  intro t
  by_cases ht : t < d.size * k
  · have k0 : 0 < k := by rcases Nat.eq_zero_or_pos k with q | q; · subst q; simp at ht
                          · exact q
    have hi : t / k < d.size := Nat.div_lt_of_lt_mul (by rw [Nat.mul_comm]; exact ht)
    have hm := Nat.mod_lt t k0
    have e1 : (elems enc d.toList)[t]? = (enc d[t / k]!)[t % k]? := by
      have hh := elems_drop (enc := enc) hk d.toList (t / k)
      have e2 : t = t / k * k + t % k := by rw [Nat.mul_comm]; exact (Nat.div_add_mod t k).symm
      conv => lhs; rw [e2]
      rw [← List.getElem?_drop, hh, List.drop_eq_getElem_cons (by simpa using hi), elems_cons, List.getElem?_append_left (by rw [hk]; exact hm)]
      rw [getElem!_pos d (t / k) hi]; simp
    rw [e1]
    have : (flatK enc k d).toList[t]? = some ((enc d[t / k]!)[t % k]!) := by
      rw [← get_flatK enc k d t ht, getElem!_pos _ t (by rw [size_flatK]; exact ht)]
      simp [ht]
    rw [this, getElem!_pos _ (t % k) (by rw [hk]; exact hm)]
    simp [hk, hm]
  · rw [List.getElem?_eq_none (by simp; omega), List.getElem?_eq_none (by rw [elems_len hk]; simpa using ht)]
theorem ext_sort {X0 : Tab} (TB : TabOK P X0) {ρ : Ren} (L : SlLaysF0.n6 P ρ) {k : Nat} (aE : ∀ w, (Go.isAgg (ρ.t 24)).run P w = .ok true w) (zE : ∀ w, (Go.sizeOf (ρ.t 24)).run P w = .ok k w) {enc : α → List Value} {dec : List Value → Option α} (hk : ∀ x, (enc x).length = k)
    (hint : ∀ x, ∀ v ∈ enc x, ∃ q m, v = .int q m) (hd : ∀ l x, dec l = some x → l = enc x) {cf : α → α → Int} (hO : SWO (ltOf cf)) {cmp : FuncId} (eg : ∀ args w, (callFunc cmp args).run P w = .ok (.enter cmp args) w)
    (hc : ∀ x y, Runs X0 ⟨0, []⟩ cmp [.agg (enc x).toArray, .agg (enc y).toArray] #[] (.int .i64 (cf x y)) #[]) : ExtOK P (ρ.f 6) (sSort enc dec k cf cmp) := by
  intro B0 κ args h v h' μ w cargs es S hR m
  unfold sSort at es
  split at es
  · rename_i a n c g f1 f2
    obtain ⟨ca, cr, rfl, hca, hcr⟩ := hR.cons_inv
    obtain ⟨cf', cr', rfl, hcf, hcr'⟩ := hcr.cons_inv
    rw [hcr'.nil_inv]
    split at es
    · rename_i hn
      subst hn
      cases es
      have : ∃ p cap, ca = .slice p 0 cap := by cases hca <;> exact ⟨_, _, rfl⟩
      obtain ⟨p, cap, rfl⟩ := this
      refine CallsIn.mono (callsIn_wide.2 (AnyF.slices_SortFunc_none L p cap cf' w)) fun e' w' hh => ?_
      obtain ⟨rfl, rfl⟩ := hh
      exact ⟨_, _, rfl, ⟨S, .refl _ _ _ _ _⟩, .tuple rfl (by simp)⟩
    · rename_i hn
      split at es
      · rename_i hq
        obtain ⟨rfl, hf1, hf2, hnb⟩ := hq
        split at es
        · rename_i a
          split at es
          · cases es
          · rename_i hsp
            split at es
            · rename_i l e hcell
              split at es
              · rename_i xs hxs
                obtain ⟨h1, hw, e2⟩ := Option.map_eq_some_iff.1 es
                cases e2
                obtain ⟨row, hgr, hdx⟩ := Option.bind_eq_some_iff.1 hxs
                have hrl := grab_len hgr
                obtain ⟨hrow, hxl⟩ := decs_of hd n row xs hrl hdx
                have hfun : cf' = .func (.func g) #[] #[] := by
                  cases hcf with
                  | fn ha hb _ _ =>
                    rw [hf1] at ha; rw [hf2] at hb
                    rw [Array.eq_empty_of_size_eq_zero ha.symm, Array.eq_empty_of_size_eq_zero hb.symm]
                subst hfun
                unfold wr at hw
                rw [hcell] at hw
                simp only at hw
                split at hw
                · rename_i hcond
                  simp only [Bool.and_eq_true, decide_eq_true_eq] at hcond
                  obtain ⟨⟨hmay, hone⟩, hoff⟩ := hcond
                  cases hw
                  have hfl : κ.fl ≤ a.block := by
                    simp only [mayPut, Bool.and_eq_true, decide_eq_true_eq] at hmay; exact hmay.1
                  have hB : ¬ a.block < B0.1 := by have := S.fl; omega
                  have hgrab := hgr
                  unfold grab at hgrab
                  split at hgrab
                  · rename_i hbound
                    injection hgrab with hgrab
                    cases hca with
                    | @sl b o len cap cc d nn kk o' cap' hb hl hcp ho hr =>
                      obtain ⟨arr, t', fz, q1, q2, q3, ⟨q4, q5⟩, q6⟩ := S.hr.cells hb hcell
                      have hfz : fz = (0, 0) := (q4.resolve_left hB).1
                      subst hfz
                      have ho' : o' = o + d := ho.resolve_left (by omega)
                      subst ho'
                      have hcl := (Array.getElem?_eq_some_iff.1 q1).1
                      simp only at hbound hgrab hoff
                      have hsz : xs.toArray.size = n := by simpa using hxl
                      have hrlen : (elems enc xs).length = n * k := by rw [elems_len hk, hxl]
                      have hH : HoldsK enc k w cc (o + d) xs.toArray := by
                        intro j hj
                        rw [size_flatK, hsz] at hj
                        have hjl : row[j]? = some ((flatK enc k xs.toArray)[j]!) := by
                          rw [getElem!_pos _ j (by rw [size_flatK, hsz]; exact hj), hrow, ← Array.getElem_toList, ← List.getElem?_eq_getElem, flatK_list hk]
                        have hlj : l[o + j]? = row[j]? := by rw [← hgrab, List.getElem?_take, if_pos hj, List.getElem?_drop]
                        obtain ⟨u, hu, hvr⟩ := q6 (o + j) _ (hlj.trans hjl)
                        have hmem : (flatK enc k xs.toArray)[j]! ∈ elems enc xs := by rw [← hrow]; exact List.mem_of_getElem? hjl
                        obtain ⟨x, hx, hvx⟩ := List.mem_flatMap.1 hmem
                        obtain ⟨q, mm, hq⟩ := hint x _ hvx
                        rw [hq] at hvr ⊢
                        cases hvr
                        refine ⟨?_, by simp [World.frozen?, q1]⟩
                        simp only [World.cell?, q1, Option.isSome_none, Bool.false_eq_true, if_false, id]
                        rw [show o + d + j = d + (o + j) by omega]; exact hu
                      have hcon := AnyQ.slices_SortFunc_eq L k aE zE enc hk (fun x v hv => by obtain ⟨q, mm, rfl⟩ := hint x v hv; rfl) cf hO g #[] cc (o + d) cap' xs.toArray w eg (cmpLays_of TB hint hc cc (o + d) _ w) hH hcl (by rw [hsz]; exact hnb)
                      rw [hsz] at hcon
                      refine CallsIn.mono (callsIn_wide.2 hcon) fun e' w' hh => ?_
                      obtain ⟨rfl, q, os, rfl⟩ := hh
                      refine ⟨_, μ, rfl, ?_, .tuple rfl (by simp)⟩
                      have hres : (pdq (ltOf cf) xs.toArray 0 n (Lib.bitLen n) true true).toList = sortL cf xs := by rw [← hxl]; rfl
                      generalize pdq (ltOf cf) xs.toArray 0 n (Lib.bitLen n) true true = D at hres
                      have hDF : (flatK enc k D).toList = elems enc (sortL cf xs) := by rw [flatK_list hk, hres]
                      have hDs : (flatK enc k D).size = (elems enc (sortL cf xs)).length := by rw [← hDF]; simp
                      have hlen : (elems enc (sortL cf xs)).length = n * k := by rw [elems_len hk, sortL_len hO, hxl]
                      have G1 : Go1 P B0 κ μ h w μ (h.setIfInBounds b (.cells (putAt l o (elems enc (sortL cf xs))) e)) (putRowK enc k w cc (o + d) D) := by
                        have hintL : ∀ v ∈ elems enc (sortL cf xs), ∃ q m, v = .int q m := fun v hv => by
                          obtain ⟨x, _, hvx⟩ := List.mem_flatMap.1 hv; exact hint x v hvx
                        refine S.write (cc' := putCells id (o + d) (flatK enc k D) arr) hb hcell q1 (ints_VR hintL) (by simpa using hoff) hmay (e' := t') (fz := (0, 0)) ⟨by simp [putCells], fun j => ?_⟩ ?_ rfl rfl ⟨rfl, Nat.le_refl _⟩
                        · simp only [putCells, Array.getElem?_mapIdx]
                          by_cases hj : o + d ≤ j ∧ j < o + d + (elems enc (sortL cf xs)).length
                          · rw [if_pos hj]
                            have hja : j < arr.size := by rw [hlen] at hj; omega
                            rw [Array.getElem?_eq_getElem hja, Option.map_some, if_pos (by rw [hDs]; exact hj), ← hDF]
                            have : j - (o + d) < (flatK enc k D).size := by rw [hDs]; omega
                            rw [getElem!_pos (flatK enc k D) (j - (o + d)) this]; simp [this]
                          · rw [if_neg hj]
                            cases hx : arr[j]? with
                            | none => rfl
                            | some x => rw [Option.map_some, if_neg (by rw [hDs]; exact hj)]
                        · simp only [putRowK, putRow, mapBlock]
                          apply Array.ext_getElem?
                          intro j
                          rw [Array.getElem?_modify, Array.getElem?_setIfInBounds]
                          by_cases hj : cc = j
                          · subst hj; rw [if_pos rfl, if_pos rfl, if_pos hcl, q1]; rfl
                          · rw [if_neg hj, if_neg hj]
                      have hsw : sortWorldK enc k w cc (o + d) q D os = grow (putRowK enc k (Sort.ahead w q) cc (o + d) D) os := rfl
                      have G2 := G1.st.grown (w' := sortWorldK enc k w cc (o + d) q D os) (fun c hc' => by
                        rw [hsw]; simp only [grow]
                        rw [Array.getElem?_append, if_pos (by simpa [putRowK, putRow, mapBlock] using hc')]; rfl) (by rw [hsw]; simp [grow, putRowK, putRow, mapBlock]) rfl rfl ⟨rfl, by rw [hsw]; show w.drawn ≤ w.drawn + q; omega⟩
                      exact ⟨G2.st, G1.fr.trans (Nat.le_refl _) G2.fr⟩
                    | slDead hb _ _ => rw [S.hr.dead _ hb] at hcell; cases hcell
                  · cases hgrab
                · cases hw
              · cases es
            · cases es
        · cases es
      · cases es
  · cases es
end Go.AM
end
