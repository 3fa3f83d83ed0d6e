import Derived.Test.YtlgbeekhaoiggaaAmA
import Derived.Test.YtlgbeekhaoiggaaAmH
set_option linter.all false
section
namespace Go.AM
abbrev CallT := Value → List Value → Heap → Option (Value × Heap)
def CallT.le (c d : CallT) : Prop := ∀ f a h r, c f a h = some r → d f a h = some r
theorem aOp_mono {c d : CallT} (hcd : CallT.le c d) {meth : TypeId → String → Option FuncId} {κ : Ctx} {env : Env} {h : Heap} {o : AOp} {r : Value × Heap} (e : aOp c meth κ env h o = some r) : aOp d meth κ env h o = some r := by
  cases o <;> first | exact e | skip
  · exact hcd _ _ _ _ e
  · simp only [aOp] at e ⊢
    split at e
    · split at e
      · rename_i f hm; exact hcd _ _ _ _ e
      · cases e
    · cases e
theorem aIns_mono {c d : CallT} (hcd : CallT.le c d) {meth : TypeId → String → Option FuncId} {κ : Ctx} {i : AIns} {env : Env} {h : Heap} {r : Option Value × Env × Heap} (e : aIns c meth κ i env h = some r) : aIns d meth κ i env h = some r := by
  unfold aIns at e ⊢
  split at e
  · rename_i hw
    rw [if_pos hw]
    split at e
    · rename_i v h' hv; rw [aOp_mono hcd hv]; exact e
    · cases e
  · rename_i hw; rw [if_neg hw]; exact e
theorem aReg_mono {c d : CallT} (hcd : CallT.le c d) {meth : TypeId → String → Option FuncId} {κ : Ctx} : ∀ {is : List AIns} {env : Env} {h : Heap} {r : Env × Heap}, aReg c meth κ is env h = some r → aReg d meth κ is env h = some r
  | [], _, _, _, e => e
  | i :: is, env, h, r, e => by
    simp only [aReg] at e ⊢
    split at e
    · rename_i v env' h' hv; rw [aIns_mono hcd hv]; exact aReg_mono hcd e
    · cases e
theorem aRegD_mono {c d : CallT} (hcd : CallT.le c d) {meth : TypeId → String → Option FuncId} {κ : Ctx} {is : List AIns} : ∀ {p : List (Nat × List Nat)} {snap : List (Nat × Env × Value)} {env : Env} {h : Heap} {r : Env × Heap},
    aRegD c meth κ is p snap env h = some r → aRegD d meth κ is p snap env h = some r
  | [], _, _, _, _, e => e
  | (j, re) :: p, snap, env, h, r, e => by
    simp only [aRegD] at e ⊢
    split at e
    · cases e
    · rename_i i hi
      split at e
      · cases e
      · rename_i v env' h' hv
        rw [aIns_mono hcd hv]
        dsimp only
        split at e
        · rename_i hs; rw [if_pos hs]; exact aRegD_mono hcd e
        · cases e
variable {X : Tab}
theorem mono_all (X : Tab) : ∀ n,
    (∀ κ c env h r, exec X n κ c env h = some r → exec X (n + 1) κ c env h = some r) ∧
    (∀ κ, CallT.le (callV X n κ) (callV X (n + 1) κ)) ∧
    (∀ κ g a h r, callF X n κ g a h = some r → callF X (n + 1) κ g a h = some r)
  | 0 => ⟨fun κ c env h r e => by simp [exec] at e, fun κ f a h r e => by simp [callV] at e, fun κ g a h r e => by simp [callF] at e⟩
  | n + 1 => by
    obtain ⟨hE, hV, hF⟩ := mono_all X n
    refine ⟨fun κ c env h r e => ?_, fun κ f a h r e => ?_, fun κ g a h r e => ?_⟩
    · cases c with
      | skip => simpa [exec] using e
      | exit id => simpa [exec] using e
      | ret => simpa [exec] using e
      | reg is =>
        simp only [exec] at e ⊢
        obtain ⟨x, hx, e2⟩ := Option.map_eq_some_iff.1 e
        rw [aReg_mono (hV κ) hx]; exact congrArg some e2
      | regD is plan =>
        simp only [exec] at e ⊢
        obtain ⟨x, hx, e2⟩ := Option.map_eq_some_iff.1 e
        rw [aRegD_mono (hV κ) hx]; exact congrArg some e2
      | seq a b =>
        rw [exec] at e ⊢
        cases he : exec X n κ a env h with
        | none => rw [he] at e; cases e
        | some p =>
          obtain ⟨ex, e1, h1⟩ := p
          rw [he] at e
          rw [hE _ _ _ _ _ he]
          cases ex with
          | normal => exact hE _ _ _ _ _ e
          | exit id => exact e
          | ret => exact e
      | cond c a b =>
        rw [exec] at e ⊢
        split at e
        · exact hE _ _ _ _ _ e
        · cases e
      | block id a =>
        rw [exec] at e ⊢
        cases he : exec X n κ a env h with
        | none => rw [he] at e; cases e
        | some p => rw [he] at e; rw [hE _ _ _ _ _ he]; exact e
      | loop a =>
        rw [exec] at e ⊢
        cases he : exec X n κ a env h with
        | none => rw [he] at e; cases e
        | some p =>
          obtain ⟨ex, e1, h1⟩ := p
          rw [he] at e
          rw [hE _ _ _ _ _ he]
          cases ex with
          | normal => exact hE _ _ _ _ _ e
          | exit id => exact e
          | ret => exact e
      | rangeF f ps asg body =>
        rw [exec] at e ⊢
        split at e
        · rename_i g first cap hf
          cases he : callF X n κ g (first.toList ++ [.func (.yield h.size) #[] #[]] ++ cap.toList) (h.push (.loop ⟨.ready, .normal, env, ps, asg, body⟩)) with
          | none => rw [he] at e; cases e
          | some p => rw [he] at e; rw [hF _ _ _ _ _ he]; exact e
        · cases e
    · cases f with
      | func fn first cap =>
        cases fn with
        | func g => rw [callV] at e ⊢; exact hF _ _ _ _ _ e
        | yield l =>
          rw [callV] at e ⊢
          try dsimp only at e ⊢
          split at e
          · rename_i lp hlp
            split at e
            · rename_i hc
              rw [if_pos hc]
              cases he : exec X n κ lp.asg (setPs lp.env (lp.ps.zip a)) h with
              | none => rw [he] at e; cases e
              | some p =>
                obtain ⟨ex, e1, h1⟩ := p
                rw [he] at e
                rw [hE _ _ _ _ _ he]
                cases ex with
                | normal =>
                  dsimp only at e ⊢
                  split at e
                  · rename_i lp1 hlp1
                    split at e
                    · rename_i hst
                      rw [if_pos hst]
                      cases he2 : exec X n κ lp.body e1 (h1.setIfInBounds l (.loop { lp1 with state := .busy })) with
                      | none => rw [he2] at e; cases e
                      | some p2 => rw [he2] at e; rw [hE _ _ _ _ _ he2]; exact e
                    · cases e
                  · cases e
                | exit id => cases e
                | ret => cases e
            · cases e
          · cases e
        | _ => simp [callV] at e
      | _ => simp [callV] at e
    · rw [callF] at e ⊢
      cases hx : X.ext g with
      | some s => rw [hx] at e; exact e
      | none =>
        rw [hx] at e
        try dsimp only at e ⊢
        cases hfn : X.fn g with
        | none => rw [hfn] at e; cases e
        | some fn =>
          rw [hfn] at e
          try dsimp only at e ⊢
          cases he : exec X n (fn.flag.ctx κ h.size) fn.body (env0 a) h with
          | none => rw [he] at e; cases e
          | some p => rw [he] at e; rw [hE _ _ _ _ _ he]; exact e
end Go.AM
end

section
namespace Go.AM
variable {X : Tab} {κ : Ctx} {env : Env} {h : Heap}
theorem exec_more {n m : Nat} (hm : n ≤ m) {c : ACode} {r : AExit × Env × Heap} (e : exec X n κ c env h = some r) : exec X m κ c env h = some r := by
  induction hm with
  | refl => exact e
  | step _ ih => exact (mono_all X _).1 _ _ _ _ _ ih
theorem callV_more {n m : Nat} (hm : n ≤ m) : CallT.le (callV X n κ) (callV X m κ) := by
  induction hm with
  | refl => exact fun _ _ _ _ e => e
  | step _ ih => exact fun _ _ _ _ e => (mono_all X _).2.1 _ _ _ _ _ (ih _ _ _ _ e)
theorem callF_more {n m : Nat} (hm : n ≤ m) {g : FuncId} {a : List Value} {r : Value × Heap} (e : callF X n κ g a h = some r) : callF X m κ g a h = some r := by
  induction hm with
  | refl => exact e
  | step _ ih => exact (mono_all X _).2.2 _ _ _ _ _ ih
def Ok (X : Tab) (κ : Ctx) (c : ACode) (env : Env) (h : Heap) (Q : AExit → Env → Heap → Prop) : Prop := ∃ n ex e' h', exec X n κ c env h = some (ex, e', h') ∧ Q ex e' h'
def Rg (X : Tab) (κ : Ctx) (is : List AIns) (env : Env) (h : Heap) (Q : Env → Heap → Prop) : Prop := ∃ n e' h', aReg (callV X n κ) X.meth κ is env h = some (e', h') ∧ Q e' h'
def RgD (X : Tab) (κ : Ctx) (is : List AIns) (p : List (Nat × List Nat)) (snap : List (Nat × Env × Value)) (env : Env) (h : Heap) (Q : Env → Heap → Prop) : Prop := ∃ n e' h', aRegD (callV X n κ) X.meth κ is p snap env h = some (e', h') ∧ Q e' h'
def Ri (X : Tab) (κ : Ctx) (i : AIns) (env : Env) (h : Heap) (Q : Option Value → Env → Heap → Prop) : Prop := ∃ n v e' h', aIns (callV X n κ) X.meth κ i env h = some (v, e', h') ∧ Q v e' h'
def Ro (X : Tab) (κ : Ctx) (o : AOp) (env : Env) (h : Heap) (Q : Value → Heap → Prop) : Prop := ∃ n v h', aOp (callV X n κ) X.meth κ env h o = some (v, h') ∧ Q v h'
def RunsV (X : Tab) (κ : Ctx) (f : Value) (args : List Value) (h : Heap) (v : Value) (h' : Heap) : Prop := ∃ n, callV X n κ f args h = some (v, h')
def Runs (X : Tab) (κ : Ctx) (g : FuncId) (args : List Value) (h : Heap) (v : Value) (h' : Heap) : Prop := ∃ n, callF X n κ g args h = some (v, h')
def thenQ (K : Env → Heap → Prop) (Q : AExit → Env → Heap → Prop) : AExit → Env → Heap → Prop
  | .normal => K
  | ex => Q ex
@[simp ↓] theorem thenQ_normal {K : Env → Heap → Prop} {Q : AExit → Env → Heap → Prop} : thenQ K Q .normal env h = K env h := rfl
@[simp ↓] theorem thenQ_exit {K : Env → Heap → Prop} {Q : AExit → Env → Heap → Prop} {i : Nat} : thenQ K Q (.exit i) env h = Q (.exit i) env h := rfl
@[simp ↓] theorem thenQ_ret {K : Env → Heap → Prop} {Q : AExit → Env → Heap → Prop} : thenQ K Q .ret env h = Q .ret env h := rfl
def blockQ (id : Nat) (Q : AExit → Env → Heap → Prop) : AExit → Env → Heap → Prop
  | .exit i => if i = id then Q .normal else Q (.exit i)
  | ex => Q ex
@[simp ↓] theorem blockQ_normal {id : Nat} {Q : AExit → Env → Heap → Prop} : blockQ id Q .normal env h = Q .normal env h := rfl
@[simp ↓] theorem blockQ_ret {id : Nat} {Q : AExit → Env → Heap → Prop} : blockQ id Q .ret env h = Q .ret env h := rfl
theorem blockQ_exit {id i : Nat} {Q : AExit → Env → Heap → Prop} : blockQ id Q (.exit i) env h = if i = id then Q .normal env h else Q (.exit i) env h := by
  show (if i = id then Q .normal else Q (.exit i)) env h = _
  split <;> rfl
variable {Q : AExit → Env → Heap → Prop}
theorem Ok.mono {c : ACode} {Q' : AExit → Env → Heap → Prop} (hq : ∀ ex e h, Q ex e h → Q' ex e h) (hh : Ok X κ c env h Q) : Ok X κ c env h Q' := by
  obtain ⟨n, ex, e', h', e, q⟩ := hh; exact ⟨n, ex, e', h', e, hq _ _ _ q⟩
theorem Ok_skip : Ok X κ .skip env h Q ↔ Q .normal env h :=
  ⟨fun ⟨n, ex, e', h', e, q⟩ => by cases n <;> simp [exec] at e; obtain ⟨rfl, rfl, rfl⟩ := e; exact q, fun q => ⟨1, _, _, _, by simp [exec], q⟩⟩
theorem Ok_ret : Ok X κ .ret env h Q ↔ Q .ret env h :=
  ⟨fun ⟨n, ex, e', h', e, q⟩ => by cases n <;> simp [exec] at e; obtain ⟨rfl, rfl, rfl⟩ := e; exact q, fun q => ⟨1, _, _, _, by simp [exec], q⟩⟩
theorem Ok_exit {i : Nat} : Ok X κ (.exit i) env h Q ↔ Q (.exit i) env h :=
  ⟨fun ⟨n, ex, e', h', e, q⟩ => by cases n <;> simp [exec] at e; obtain ⟨rfl, rfl, rfl⟩ := e; exact q, fun q => ⟨1, _, _, _, by simp [exec], q⟩⟩
theorem Ok_reg {is : List AIns} : Ok X κ (.reg is) env h Q ↔ Rg X κ is env h (fun e h => Q .normal e h) := by
  constructor
  · rintro ⟨n, ex, e', h', e, q⟩
    cases n with
    | zero => simp [exec] at e
    | succ n =>
      simp only [exec] at e
      obtain ⟨x, hx, e2⟩ := Option.map_eq_some_iff.1 e
      cases e2; exact ⟨n, _, _, hx, q⟩
  · rintro ⟨n, e', h', e, q⟩
    exact ⟨n + 1, _, _, _, by simp only [exec, e, Option.map_some], q⟩
theorem Ok_regD {is : List AIns} {p : List (Nat × List Nat)} : Ok X κ (.regD is p) env h Q ↔ RgD X κ is p [] env h (fun e h => Q .normal e h) := by
  constructor
  · rintro ⟨n, ex, e', h', e, q⟩
    cases n with
    | zero => simp [exec] at e
    | succ n =>
      simp only [exec] at e
      obtain ⟨x, hx, e2⟩ := Option.map_eq_some_iff.1 e
      cases e2; exact ⟨n, _, _, hx, q⟩
  · rintro ⟨n, e', h', e, q⟩
    exact ⟨n + 1, _, _, _, by simp only [exec, e, Option.map_some], q⟩
theorem Ok_seq {a b : ACode} : Ok X κ (.seq a b) env h Q ↔ Ok X κ a env h (thenQ (fun e h => Ok X κ b e h Q) Q) := by
  constructor
  · rintro ⟨n, ex, e', h', e, q⟩
    cases n with
    | zero => simp [exec] at e
    | succ n =>
      rw [exec] at e
      cases he : exec X n κ a env h with
      | none => rw [he] at e; cases e
      | some p =>
        obtain ⟨x1, e1, h1⟩ := p
        rw [he] at e
        refine ⟨n, x1, e1, h1, he, ?_⟩
        cases x1 with
        | normal => exact ⟨n, ex, e', h', e, q⟩
        | exit i => cases e; exact q
        | ret => cases e; exact q
  · rintro ⟨n, x1, e1, h1, he, q⟩
    cases x1 with
    | normal =>
      obtain ⟨m, ex, e', h', e, q⟩ := q
      refine ⟨max n m + 1, ex, e', h', ?_, q⟩
      rw [exec, exec_more (Nat.le_max_left n m) he]
      exact exec_more (Nat.le_max_right n m) e
    | exit i => exact ⟨n + 1, _, _, _, by rw [exec, he], q⟩
    | ret => exact ⟨n + 1, _, _, _, by rw [exec, he], q⟩
theorem Ok_cond {c : Opd} {a b : ACode} : Ok X κ (.cond c a b) env h Q ↔ ∃ t, c.val env = .bool t ∧ if t = true then Ok X κ a env h Q else Ok X κ b env h Q := by
  constructor
  · rintro ⟨n, ex, e', h', e, q⟩
    cases n with
    | zero => simp [exec] at e
    | succ n =>
      rw [exec] at e
      split at e
      · rename_i t ht
        refine ⟨t, ht, ?_⟩
        cases t <;> exact ⟨n, _, _, _, e, q⟩
      · cases e
  · rintro ⟨t, ht, q⟩
    cases t with
    | true => obtain ⟨n, ex, e', h', e, q⟩ := q; exact ⟨n + 1, _, _, _, by rw [exec, ht]; exact e, q⟩
    | false => obtain ⟨n, ex, e', h', e, q⟩ := q; exact ⟨n + 1, _, _, _, by rw [exec, ht]; exact e, q⟩
theorem Ok_block {id : Nat} {a : ACode} : Ok X κ (.block id a) env h Q ↔ Ok X κ a env h (blockQ id Q) := by
  constructor
  · rintro ⟨n, ex, e', h', e, q⟩
    cases n with
    | zero => simp [exec] at e
    | succ n =>
      rw [exec] at e
      cases he : exec X n κ a env h with
      | none => rw [he] at e; cases e
      | some p =>
        obtain ⟨x1, e1, h1⟩ := p
        rw [he] at e
        refine ⟨n, x1, e1, h1, he, ?_⟩
        cases x1 with
        | normal => cases e; exact q
        | ret => cases e; exact q
        | exit i => cases e; rw [blockQ_exit]; split <;> (rename_i hi; simpa [hi] using q)
  · rintro ⟨n, x1, e1, h1, he, q⟩
    cases x1 with
    | normal => exact ⟨n + 1, _, _, _, by rw [exec, he], q⟩
    | ret => exact ⟨n + 1, _, _, _, by rw [exec, he], q⟩
    | exit i =>
      refine ⟨n + 1, _, _, _, by rw [exec, he], ?_⟩
      rw [blockQ_exit] at q
      split at q <;> (rename_i hi; simpa [hi] using q)
theorem Ok_loop {a : ACode} : Ok X κ (.loop a) env h Q ↔ Ok X κ a env h (thenQ (fun e h => Ok X κ (.loop a) e h Q) Q) := by
  constructor
  · rintro ⟨n, ex, e', h', e, q⟩
    cases n with
    | zero => simp [exec] at e
    | succ n =>
      rw [exec] at e
      cases he : exec X n κ a env h with
      | none => rw [he] at e; cases e
      | some p =>
        obtain ⟨x1, e1, h1⟩ := p
        rw [he] at e
        refine ⟨n, x1, e1, h1, he, ?_⟩
        cases x1 with
        | normal => exact ⟨n, ex, e', h', e, q⟩
        | exit i => cases e; exact q
        | ret => cases e; exact q
  · rintro ⟨n, x1, e1, h1, he, q⟩
    cases x1 with
    | normal =>
      obtain ⟨m, ex, e', h', e, q⟩ := q
      refine ⟨max n m + 1, ex, e', h', ?_, q⟩
      rw [exec, exec_more (Nat.le_max_left n m) he]
      exact exec_more (Nat.le_max_right n m) e
    | exit i => exact ⟨n + 1, _, _, _, by rw [exec, he], q⟩
    | ret => exact ⟨n + 1, _, _, _, by rw [exec, he], q⟩
theorem Rg_nil {R : Env → Heap → Prop} : Rg X κ [] env h R ↔ R env h :=
  ⟨fun ⟨n, e', h', e, q⟩ => by simp only [aReg] at e; cases e; exact q, fun q => ⟨0, _, _, rfl, q⟩⟩
theorem Rg_cons {i : AIns} {is : List AIns} {R : Env → Heap → Prop} : Rg X κ (i :: is) env h R ↔ Ri X κ i env h (fun _ e h => Rg X κ is e h R) := by
  constructor
  · rintro ⟨n, e', h', e, q⟩
    simp only [aReg] at e
    split at e
    · rename_i v e1 h1 hv; exact ⟨n, v, e1, h1, hv, n, e', h', e, q⟩
    · cases e
  · rintro ⟨n, v, e1, h1, hv, m, e', h', e, q⟩
    refine ⟨max n m, e', h', ?_, q⟩
    simp only [aReg, aIns_mono (callV_more (Nat.le_max_left n m)) hv]
    exact aReg_mono (callV_more (Nat.le_max_right n m)) e
theorem RgD_nil {is : List AIns} {snap : List (Nat × Env × Value)} {R : Env → Heap → Prop} : RgD X κ is [] snap env h R ↔ R env h :=
  ⟨fun ⟨n, e', h', e, q⟩ => by simp only [aRegD] at e; cases e; exact q, fun q => ⟨0, _, _, rfl, q⟩⟩
theorem RgD_cons {is : List AIns} {j : Nat} {re : List Nat} {p : List (Nat × List Nat)} {snap : List (Nat × Env × Value)} {R : Env → Heap → Prop} {i : AIns} (hi : is[j]? = some i) :
    RgD X κ is ((j, re) :: p) snap env h R ↔ Ri X κ i env h (fun v e h' => snap.all (still is re h') = true ∧ RgD X κ is p (snapped j env v snap) e h' R) := by
  constructor
  · rintro ⟨n, e', h', e, q⟩
    simp only [aRegD, hi] at e
    split at e
    · cases e
    · rename_i v e1 h1 hv
      split at e
      · rename_i hs; exact ⟨n, v, e1, h1, hv, hs, n, e', h', e, q⟩
      · cases e
  · rintro ⟨n, v, e1, h1, hv, hs, m, e', h', e, q⟩
    refine ⟨max n m, e', h', ?_, q⟩
    simp only [aRegD, hi, aIns_mono (callV_more (Nat.le_max_left n m)) hv, hs, if_true]
    exact aRegD_mono (callV_more (Nat.le_max_right n m)) e
theorem Ri_plain {d : Option Nat} {o : AOp} {R : Option Value → Env → Heap → Prop} : Ri X κ ⟨d, o, none⟩ env h R ↔ Ro X κ o env h (fun v h' => R (some v) (put env d v) h') := by
  constructor
  · rintro ⟨n, v, e', h', e, q⟩
    unfold aIns at e
    simp only [wanted, if_true] at e
    split at e
    · rename_i v1 h1 hv; cases e; exact ⟨n, _, _, hv, q⟩
    · cases e
  · rintro ⟨n, v, h', e, q⟩
    exact ⟨n, some v, _, h', by unfold aIns; simp only [wanted, if_true, e], q⟩
theorem Ri_guard {d : Option Nat} {o : AOp} {t : Nat} {w : Bool} {R : Option Value → Env → Heap → Prop} :
    Ri X κ ⟨d, o, some (t, w)⟩ env h R ↔ if wanted env (some (t, w)) = true then Ro X κ o env h (fun v h' => R (some v) (put env d v) h') else R none (put env d undef) h := by
  by_cases hw : wanted env (some (t, w)) = true
  · rw [if_pos hw]
    constructor
    · rintro ⟨n, v, e', h', e, q⟩
      unfold aIns at e
      simp only [hw, if_true] at e
      split at e
      · rename_i v1 h1 hv; cases e; exact ⟨n, _, _, hv, q⟩
      · cases e
    · rintro ⟨n, v, h', e, q⟩
      exact ⟨n, some v, _, h', by unfold aIns; simp only [hw, if_true, e], q⟩
  · rw [if_neg hw]
    constructor
    · rintro ⟨n, v, e', h', e, q⟩
      unfold aIns at e
      rw [if_neg hw] at e; cases e; exact q
    · intro q
      exact ⟨0, none, _, h, by unfold aIns; rw [if_neg hw], q⟩
theorem put_some {t : Nat} {v : Value} : put env (some t) v = upd env t v := rfl
theorem put_none {v : Value} : put env none v = env := rfl
theorem upd_same {t : Nat} {v : Value} : upd env t v t = v := by simp [upd]
theorem upd_ne {t x : Nat} {v : Value} (hx : x ≠ t) : upd env t v x = env x := by simp [upd, hx]
section ops
variable {R : Value → Heap → Prop}
theorem Ro_of_val {o : AOp} (hd : ∀ c m, aOp c m κ env h o = aPure env h o) (hn : aNew env o = none) : Ro X κ o env h R ↔ ∃ v, aVal env h o = some v ∧ R v h := by
  constructor
  · rintro ⟨n, v, h', e, q⟩
    rw [hd] at e; unfold aPure at e; rw [hn] at e
    obtain ⟨v', hv, e2⟩ := Option.map_eq_some_iff.1 e
    cases e2; exact ⟨_, hv, q⟩
  · rintro ⟨v, e, q⟩
    exact ⟨0, v, h, by rw [hd]; unfold aPure; rw [hn, e]; rfl, q⟩
theorem Ro_mov {x : Opd} : Ro X κ (.mov x) env h R ↔ R (x.val env) h := by rw [Ro_of_val (fun _ _ => rfl) rfl]; simp [aVal]
theorem Ro_load1 {a : Opd} : Ro X κ (.load1 a) env h R ↔ ∃ v, rd1 h (a.val env) = some v ∧ R v h := Ro_of_val (fun _ _ => rfl) rfl
theorem Ro_loadN {n : Nat} {a : Opd} : Ro X κ (.loadN n a) env h R ↔ ∃ v, rdN h n (a.val env) = some v ∧ R v h := Ro_of_val (fun _ _ => rfl) rfl
theorem Ro_bin {op : BinOp} {x y : Opd} : Ro X κ (.bin op x y) env h R ↔ ∃ v, binV op (x.val env) (y.val env) = some v ∧ R v h := Ro_of_val (fun _ _ => rfl) rfl
theorem Ro_eqv {neg : Bool} {ks : List EqK} {g : Bool} {x y : Opd} : Ro X κ (.eqv neg ks g x y) env h R ↔ ∃ b, eqV ks g (x.val env) (y.val env) = some b ∧ R (.bool (if neg then !b else b)) h := by
  rw [Ro_of_val (fun _ _ => rfl) rfl]; simp only [aVal, Option.map_eq_some_iff]
  constructor
  · rintro ⟨v, ⟨b, hb, rfl⟩, q⟩; exact ⟨b, hb, q⟩
  · rintro ⟨b, hb, q⟩; exact ⟨_, ⟨b, hb, rfl⟩, q⟩
theorem Ro_un {op : UnOp} {x : Opd} : Ro X κ (.un op x) env h R ↔ ∃ v, unV op (x.val env) = some v ∧ R v h := Ro_of_val (fun _ _ => rfl) rfl
theorem Ro_val {o : AOp} (hd : (match o with | .store .. | .append .. | .copy .. | .nextS .. | .clear .. | .insert .. | .call .. | .invoke .. => false | .box .. | .alloc .. | .buildSlice .. | .makeSlice .. | .makeMap | .rangeS .. => false | _ => true) = true) :
    Ro X κ o env h R ↔ ∃ v, aVal env h o = some v ∧ R v h := by
  cases o <;> first | exact Ro_of_val (fun _ _ => rfl) rfl | cases hd
theorem Ro_alloc {e : TypeId} {z : List Value} : Ro X κ (.alloc e z) env h R ↔ R (.pointer (some ⟨h.size, 0, none⟩)) (h.push (.cells z e)) :=
  ⟨fun ⟨n, v, h', e, q⟩ => by simp only [aOp, aPure, aNew] at e; cases e; exact q, fun q => ⟨0, _, _, rfl, q⟩⟩
theorem Ro_new {o : AOp} {x : AObj} {mk : Nat → Value} (hd : ∀ c m, aOp c m κ env h o = aPure env h o) (hn : aNew env o = some (x, mk)) : Ro X κ o env h R ↔ R (mk h.size) (h.push x) := by
  constructor
  · rintro ⟨n, v, h', e, q⟩
    rw [hd] at e; unfold aPure at e; rw [hn] at e; cases e; exact q
  · intro q
    exact ⟨0, _, _, by rw [hd]; unfold aPure; rw [hn], q⟩
theorem Ro_store {n : Nat} {a x : Opd} : Ro X κ (.store n a x) env h R ↔ ∃ p, a.val env = .pointer (some p) ∧ p.spot.isSome = false ∧ (x.val env).cells.size = n ∧ ∃ h', wr κ h p.block p.off (x.val env).cells.toList = some h' ∧ R undef h' := by
  constructor
  · rintro ⟨m, v, h', e, q⟩
    simp only [aOp] at e
    split at e
    · rename_i p hp
      split at e
      · cases e
      · rename_i hs
        split at e
        · rename_i hz
          obtain ⟨h1, hw, e2⟩ := Option.map_eq_some_iff.1 e
          cases e2
          exact ⟨p, hp, by simpa using hs, hz, h', hw, q⟩
        · cases e
    · cases e
  · rintro ⟨p, hp, hs, hz, h', hw, q⟩
    refine ⟨0, undef, h', ?_, q⟩
    simp only [aOp, hp, hs, Bool.false_eq_true, if_false, hz, if_true, hw, Option.map_some]
theorem Ro_append {e : TypeId} {k b : Nat} {s x : Opd} : Ro X κ (.append e k b s x) env h R ↔ ∃ v h', aAppend κ h e k b (s.val env) (x.val env) = some (v, h') ∧ R v h' :=
  ⟨fun ⟨_, v, h', e, q⟩ => ⟨v, h', e, q⟩, fun ⟨v, h', e, q⟩ => ⟨0, v, h', e, q⟩⟩
theorem Ro_copy {k : Nat} {d x : Opd} : Ro X κ (.copy k d x) env h R ↔ ∃ v h', aCopy κ h k (d.val env) (x.val env) = some (v, h') ∧ R v h' :=
  ⟨fun ⟨_, v, h', e, q⟩ => ⟨v, h', e, q⟩, fun ⟨v, h', e, q⟩ => ⟨0, v, h', e, q⟩⟩
theorem Ro_call {f : Opd} {args : List Opd} : Ro X κ (.call f args) env h R ↔ ∃ v h', RunsV X κ (f.val env) (args.map (·.val env)) h v h' ∧ R v h' :=
  ⟨fun ⟨n, v, h', e, q⟩ => ⟨v, h', ⟨n, e⟩, q⟩, fun ⟨v, h', ⟨n, e⟩, q⟩ => ⟨n, v, h', e, q⟩⟩
end ops
def EndsQ (rs : List ARes) (fl : Flag) (h : Heap) (v : Value) (h' : Heap) : AExit → Env → Heap → Prop
  | .exit _, _, _ => False
  | _, env, h1 => ∃ vs, resOf env h1 rs = some vs ∧ finish fl h h1 (tup vs) = some (v, h')
theorem Runs_of {g : FuncId} {nt : Nat} {body : ACode} {rs : List ARes} {fl : Flag} {args : List Value} {v : Value} {h' : Heap} (he : X.ext g = none) (hf : X.fn g = some ⟨nt, body, rs, fl⟩)
    (hb : Ok X (fl.ctx κ h.size) body (env0 args) h (EndsQ rs fl h v h')) : Runs X κ g args h v h' := by
  obtain ⟨n, ex, e1, h1, e, q⟩ := hb
  refine ⟨n + 1, ?_⟩
  rw [callF, he]
  simp only [hf, e]
  cases ex with
  | exit i => exact q.elim
  | normal => obtain ⟨vs, q1, q2⟩ := q; simp only [q1, q2]
  | ret => obtain ⟨vs, q1, q2⟩ := q; simp only [q1, q2]
theorem Runs_ext {g : FuncId} {s : Ctx → List Value → Heap → Option (Value × Heap)} {args : List Value} {v : Value} {h' : Heap} (he : X.ext g = some s) (hs : s κ args h = some (v, h')) : Runs X κ g args h v h' :=
  ⟨1, by rw [callF, he]; exact hs⟩
end Go.AM
end

section
namespace Go.AM
variable {X : Tab} {κ : Ctx} {env : Env} {h : Heap}
attribute [simp ↓] Ok_skip Ok_ret Ok_exit Ok_reg Ok_regD Ok_seq Ok_block Rg_nil Rg_cons RgD_nil Ri_plain Ri_guard
attribute [simp ↓] Ro_mov Ro_alloc
def iteP (c : Prop) [Decidable c] (A B : Prop) : Prop := if c then A else B
@[congr] theorem thenQ_congr {K : Env → Heap → Prop} {Q : AExit → Env → Heap → Prop} {ex : AExit} : thenQ K Q ex env h = thenQ K Q ex env h := rfl
@[congr] theorem blockQ_congr {i : Nat} {Q : AExit → Env → Heap → Prop} {ex : AExit} : blockQ i Q ex env h = blockQ i Q ex env h := rfl
@[simp ↓] theorem blockQ_exit_same {i : Nat} {Q : AExit → Env → Heap → Prop} : blockQ i Q (.exit i) env h = Q .normal env h := by rw [blockQ_exit, if_pos rfl]
@[simp ↓] theorem blockQ_exit_ne {i j : Nat} {Q : AExit → Env → Heap → Prop} (hij : i ≠ j) : blockQ j Q (.exit i) env h = Q (.exit i) env h := by rw [blockQ_exit, if_neg hij]
def bindO {α : Type} (o : Option α) (K : α → Prop) : Prop := ∃ v, o = some v ∧ K v
@[simp ↓] theorem bindO_some {α : Type} {v : α} {K : α → Prop} : bindO (some v) K ↔ K v := by simp [bindO]
@[simp ↓] theorem bindO_none {α : Type} {K : α → Prop} : bindO (none : Option α) K ↔ False := by simp [bindO]
@[congr] theorem bindO_congr {α : Type} {o o' : Option α} {K : α → Prop} (h : o = o') : bindO o K = bindO o' K := by rw [h]
def condB (b : Value) (A B : Prop) : Prop := ∃ t, b = .bool t ∧ if t = true then A else B
@[simp ↓] theorem condB_true {A B : Prop} : condB (.bool true) A B ↔ A := by simp [condB]
@[simp ↓] theorem condB_false {A B : Prop} : condB (.bool false) A B ↔ B := by simp [condB]
@[congr] theorem condB_congr {b b' : Value} {A B : Prop} (h : b = b') : condB b A B = condB b' A B := by rw [h]
def iteB (b : Bool) (A B : Prop) : Prop := if b = true then A else B
@[simp ↓] theorem iteB_true {A B : Prop} : iteB true A B ↔ A := by simp [iteB]
@[simp ↓] theorem iteB_false {A B : Prop} : iteB false A B ↔ B := by simp [iteB]
@[congr] theorem iteB_congr {b b' : Bool} {A B : Prop} (h : b = b') : iteB b A B = iteB b' A B := by rw [h]
@[simp ↓] theorem Ok_condB {c : Opd} {a b : ACode} {Q : AExit → Env → Heap → Prop} : Ok X κ (.cond c a b) env h Q ↔ condB (c.val env) (Ok X κ a env h Q) (Ok X κ b env h Q) := Ok_cond
@[simp ↓] theorem Ri_guardB {d : Option Nat} {o : AOp} {t : Nat} {w : Bool} {R : Option Value → Env → Heap → Prop} :
    Ri X κ ⟨d, o, some (t, w)⟩ env h R ↔ iteB (wanted env (some (t, w))) (Ro X κ o env h (fun v h' => R (some v) (put env d v) h')) (R none (put env d undef) h) := Ri_guard
def callQ (X : Tab) (κ : Ctx) (f : Value) (args : List Value) (h : Heap) (R : Value → Heap → Prop) : Prop := ∃ v h', RunsV X κ f args h v h' ∧ R v h'
def callR (X : Tab) (κ : Ctx) (g : FuncId) (args : List Value) (h : Heap) (R : Value → Heap → Prop) : Prop := ∃ v h', Runs X κ g args h v h' ∧ R v h'
@[congr] theorem Ok_congr {c : ACode} {Q : AExit → Env → Heap → Prop} : Ok X κ c env h Q = Ok X κ c env h Q := rfl
@[congr] theorem Rg_congr {is : List AIns} {R : Env → Heap → Prop} : Rg X κ is env h R = Rg X κ is env h R := rfl
@[congr] theorem RgD_congr {is : List AIns} {p : List (Nat × List Nat)} {sn : List (Nat × Env × Value)} {R : Env → Heap → Prop} : RgD X κ is p sn env h R = RgD X κ is p sn env h R := rfl
@[congr] theorem Ri_congr {i : AIns} {R : Option Value → Env → Heap → Prop} : Ri X κ i env h R = Ri X κ i env h R := rfl
@[congr] theorem Ro_congr {o : AOp} {R : Value → Heap → Prop} : Ro X κ o env h R = Ro X κ o env h R := rfl
@[congr] theorem callQ_congr {f f' : Value} {args args' : List Value} {h h' : Heap} {R : Value → Heap → Prop} (e1 : f = f') (e2 : args = args') (e3 : h = h') : callQ X κ f args h R = callQ X κ f' args' h' R := by rw [e1, e2, e3]
@[congr] theorem callR_congr {g : FuncId} {args args' : List Value} {h h' : Heap} {R : Value → Heap → Prop} (e2 : args = args') (e3 : h = h') : callR X κ g args h R = callR X κ g args' h' R := by rw [e2, e3]
theorem RunsV_func {g : FuncId} {first cap : Array Value} {args : List Value} {v : Value} {h' : Heap} : RunsV X κ (.func (.func g) first cap) args h v h' ↔ Runs X κ g (first.toList ++ args ++ cap.toList) h v h' := by
  constructor
  · rintro ⟨n, e⟩
    cases n with
    | zero => simp [callV] at e
    | succ n => rw [callV] at e; exact ⟨n, e⟩
  · rintro ⟨n, e⟩; exact ⟨n + 1, by rw [callV]; exact e⟩
@[simp ↓] theorem Ro_callQ {f : Opd} {args : List Opd} {R : Value → Heap → Prop} : Ro X κ (.call f args) env h R ↔ callQ X κ (f.val env) (args.map (·.val env)) h R := Ro_call
@[simp ↓] theorem callQ_func {g : FuncId} {first cap : Array Value} {args : List Value} {R : Value → Heap → Prop} : callQ X κ (.func (.func g) first cap) args h R ↔ callR X κ g (first.toList ++ args ++ cap.toList) h R := by
  simp only [callQ, callR, RunsV_func]
theorem Runs.det {g : FuncId} {args : List Value} {v v' : Value} {h1 h2 : Heap} (a : Runs X κ g args h v h1) (b : Runs X κ g args h v' h2) : v = v' ∧ h1 = h2 := by
  obtain ⟨n, e⟩ := a
  obtain ⟨m, e'⟩ := b
  have q1 := callF_more (Nat.le_max_left n m) e
  have q2 := callF_more (Nat.le_max_right n m) e'
  rw [q1] at q2
  cases q2; exact ⟨rfl, rfl⟩
theorem Runs.to {g : FuncId} {args : List Value} {v : Value} {h1 : Heap} (a : Runs X κ g args h v h1) {R : Value → Heap → Prop} : callR X κ g args h R ↔ R v h1 :=
  ⟨fun ⟨v', h', b, q⟩ => by obtain ⟨rfl, rfl⟩ := a.det b; exact q, fun q => ⟨v, h1, a, q⟩⟩
@[simp] theorem upd_get {t x : Nat} {v : Value} : upd env t v x = if x = t then v else env x := rfl
@[simp] theorem put_some' {t : Nat} {v : Value} : put env (some t) v = upd env t v := rfl
@[simp] theorem put_none' {v : Value} : put env none v = env := rfl
@[simp] theorem val_t {n : Nat} : (Opd.t n).val env = env n := rfl
@[simp] theorem val_c {v : Value} : (Opd.c v).val env = v := rfl
@[simp] theorem env0_get {args : List Value} {t : Nat} : env0 args t = (args[t]?).getD undef := rfl
section ops
variable {R : Value → Heap → Prop}
theorem Ro_bind {o : AOp} (hd : (match o with | .store .. | .append .. | .copy .. | .nextS .. | .clear .. | .insert .. | .call .. | .invoke .. => false | .box .. | .alloc .. | .buildSlice .. | .makeSlice .. | .makeMap | .rangeS .. => false | _ => true) = true) :
    Ro X κ o env h R ↔ bindO (aVal env h o) (fun v => R v h) := Ro_val hd
@[simp ↓] theorem RB_pick (c a b : Opd) : Ro X κ (.pick c a b) env h R ↔ bindO (aVal env h (.pick c a b)) (fun v => R v h) := Ro_bind rfl
@[simp ↓] theorem RB_build (z : List Value) (ps : List (Nat × Nat × Opd)) : Ro X κ (.build z ps) env h R ↔ bindO (aVal env h (.build z ps)) (fun v => R v h) := Ro_bind rfl
@[simp ↓] theorem RB_load1 (a : Opd) : Ro X κ (.load1 a) env h R ↔ bindO (aVal env h (.load1 a)) (fun v => R v h) := Ro_bind rfl
@[simp ↓] theorem RB_loadN (n : Nat) (a : Opd) : Ro X κ (.loadN n a) env h R ↔ bindO (aVal env h (.loadN n a)) (fun v => R v h) := Ro_bind rfl
@[simp ↓] theorem RB_nilCheck (x : Opd) : Ro X κ (.nilCheck x) env h R ↔ bindO (aVal env h (.nilCheck x)) (fun v => R v h) := Ro_bind rfl
@[simp ↓] theorem RB_bin (op : BinOp) (x y : Opd) : Ro X κ (.bin op x y) env h R ↔ bindO (aVal env h (.bin op x y)) (fun v => R v h) := Ro_bind rfl
@[simp ↓] theorem RB_eqv (n : Bool) (ks : List EqK) (g : Bool) (x y : Opd) : Ro X κ (.eqv n ks g x y) env h R ↔ bindO (aVal env h (.eqv n ks g x y)) (fun v => R v h) := Ro_bind rfl
@[simp ↓] theorem RB_un (op : UnOp) (x : Opd) : Ro X κ (.un op x) env h R ↔ bindO (aVal env h (.un op x)) (fun v => R v h) := Ro_bind rfl
@[simp ↓] theorem RB_convInt (k : IntKind) (x : Opd) : Ro X κ (.convInt k x) env h R ↔ bindO (aVal env h (.convInt k x)) (fun v => R v h) := Ro_bind rfl
@[simp ↓] theorem RB_bytesStr (x : Opd) : Ro X κ (.bytesStr x) env h R ↔ bindO (aVal env h (.bytesStr x)) (fun v => R v h) := Ro_bind rfl
@[simp ↓] theorem RB_mkIface (t : TypeId) (x : Opd) : Ro X κ (.mkIface t x) env h R ↔ bindO (aVal env h (.mkIface t x)) (fun v => R v h) := Ro_bind rfl
@[simp ↓] theorem RB_mkFunc (f : Fn) (a b : List Opd) : Ro X κ (.mkFunc f a b) env h R ↔ bindO (aVal env h (.mkFunc f a b)) (fun v => R v h) := Ro_bind rfl
@[simp ↓] theorem RB_sliceStr (x : Opd) (lo hi : Option Opd) : Ro X κ (.sliceStr x lo hi) env h R ↔ bindO (aVal env h (.sliceStr x lo hi)) (fun v => R v h) := Ro_bind rfl
@[simp ↓] theorem RB_slice (e : TypeId) (k : Nat) (x : Opd) (lo hi mx : Option Opd) : Ro X κ (.slice e k x lo hi mx) env h R ↔ bindO (aVal env h (.slice e k x lo hi mx)) (fun v => R v h) := Ro_bind rfl
@[simp ↓] theorem RB_addOff (n : Nat) (x : Opd) : Ro X κ (.addOff n x) env h R ↔ bindO (aVal env h (.addOff n x)) (fun v => R v h) := Ro_bind rfl
@[simp ↓] theorem RB_field1 (n : Nat) (x : Opd) : Ro X κ (.field1 n x) env h R ↔ bindO (aVal env h (.field1 n x)) (fun v => R v h) := Ro_bind rfl
@[simp ↓] theorem RB_fieldN (o n : Nat) (x : Opd) : Ro X κ (.fieldN o n x) env h R ↔ bindO (aVal env h (.fieldN o n x)) (fun v => R v h) := Ro_bind rfl
@[simp ↓] theorem RB_idxA (k : Nat) (x i : Opd) : Ro X κ (.idxA k x i) env h R ↔ bindO (aVal env h (.idxA k x i)) (fun v => R v h) := Ro_bind rfl
@[simp ↓] theorem RB_idxArr (n k : Nat) (x i : Opd) : Ro X κ (.idxArr n k x i) env h R ↔ bindO (aVal env h (.idxArr n k x i)) (fun v => R v h) := Ro_bind rfl
@[simp ↓] theorem RB_ixStr (x i : Opd) : Ro X κ (.ixStr x i) env h R ↔ bindO (aVal env h (.ixStr x i)) (fun v => R v h) := Ro_bind rfl
@[simp ↓] theorem RB_ixAgg (n k : Nat) (g : Bool) (x i : Opd) : Ro X κ (.ixAgg n k g x i) env h R ↔ bindO (aVal env h (.ixAgg n k g x i)) (fun v => R v h) := Ro_bind rfl
@[simp ↓] theorem RB_extract (x : Opd) (n : Nat) : Ro X κ (.extract x n) env h R ↔ bindO (aVal env h (.extract x n)) (fun v => R v h) := Ro_bind rfl
@[simp ↓] theorem RB_len (x : Opd) : Ro X κ (.len x) env h R ↔ bindO (aVal env h (.len x)) (fun v => R v h) := Ro_bind rfl
@[simp ↓] theorem RB_lenStr (x : Opd) : Ro X κ (.lenStr x) env h R ↔ bindO (aVal env h (.lenStr x)) (fun v => R v h) := Ro_bind rfl
@[simp ↓] theorem RB_lenC (n : Nat) : Ro X κ (.lenC n) env h R ↔ bindO (aVal env h (.lenC n)) (fun v => R v h) := Ro_bind rfl
@[simp ↓] theorem RB_tyAssert (t : TypeId) (ok : Bool) (z : Value) (x : Opd) : Ro X κ (.tyAssert t ok z x) env h R ↔ bindO (aVal env h (.tyAssert t ok z x)) (fun v => R v h) := Ro_bind rfl
@[simp ↓] theorem RB_maxI (x y : Opd) : Ro X κ (.maxI x y) env h R ↔ bindO (aVal env h (.maxI x y)) (fun v => R v h) := Ro_bind rfl
@[simp ↓] theorem RB_minI (x y : Opd) : Ro X κ (.minI x y) env h R ↔ bindO (aVal env h (.minI x y)) (fun v => R v h) := Ro_bind rfl
@[simp ↓] theorem RB_lookup (ok : Bool) (z : Value) (m k : Opd) : Ro X κ (.lookup ok z m k) env h R ↔ bindO (aVal env h (.lookup ok z m k)) (fun v => R v h) := Ro_bind rfl
@[simp ↓] theorem RB_new_box (e : TypeId) (x : Opd) : Ro X κ (.box e x) env h R ↔ bindO (aNew env (.box e x)) (fun p => R (p.2 h.size) (h.push p.1)) := by
  constructor
  · rintro ⟨n, v, h', e, q⟩
    simp only [aOp, aPure] at e
    split at e
    · rename_i x mk hx; cases e; exact ⟨_, hx, q⟩
    · simp [aVal] at e
  · rintro ⟨⟨o, mk⟩, hn, q⟩
    exact (Ro_new (fun _ _ => rfl) hn).2 q
@[simp ↓] theorem RB_new_buildSlice (e : TypeId) (n : Nat) (z : List Value) (ps : List (Nat × Nat × Opd)) : Ro X κ (.buildSlice e n z ps) env h R ↔ bindO (aNew env (.buildSlice e n z ps)) (fun p => R (p.2 h.size) (h.push p.1)) := by
  constructor
  · rintro ⟨n, v, h', e, q⟩
    simp only [aOp, aPure] at e
    split at e
    · rename_i x mk hx; cases e; exact ⟨_, hx, q⟩
    · simp [aVal] at e
  · rintro ⟨⟨o, mk⟩, hn, q⟩
    exact (Ro_new (fun _ _ => rfl) hn).2 q
@[simp ↓] theorem RB_new_makeSlice (e : TypeId) (b : Nat) (z : List Value) (n c : Opd) : Ro X κ (.makeSlice e b z n c) env h R ↔ bindO (aNew env (.makeSlice e b z n c)) (fun p => R (p.2 h.size) (h.push p.1)) := by
  constructor
  · rintro ⟨n, v, h', e, q⟩
    simp only [aOp, aPure] at e
    split at e
    · rename_i x mk hx; cases e; exact ⟨_, hx, q⟩
    · simp [aVal] at e
  · rintro ⟨⟨o, mk⟩, hn, q⟩
    exact (Ro_new (fun _ _ => rfl) hn).2 q
@[simp ↓] theorem RB_new_makeMap : Ro X κ .makeMap env h R ↔ R (.map (some h.size)) (h.push (.map [])) := Ro_new (o := .makeMap) (x := .map []) (mk := fun b => .map (some b)) (fun _ _ => rfl) rfl
@[simp ↓] theorem RB_new_rangeS (x : Opd) : Ro X κ (.rangeS x) env h R ↔ bindO (aNew env (.rangeS x)) (fun p => R (p.2 h.size) (h.push p.1)) := by
  constructor
  · rintro ⟨n, v, h', e, q⟩
    simp only [aOp, aPure] at e
    split at e
    · rename_i x mk hx; cases e; exact ⟨_, hx, q⟩
    · simp [aVal] at e
  · rintro ⟨⟨o, mk⟩, hn, q⟩
    exact (Ro_new (fun _ _ => rfl) hn).2 q
@[simp ↓] theorem RB_store (n : Nat) (a x : Opd) : Ro X κ (.store n a x) env h R ↔ bindO (aOp (fun _ _ _ => none) (fun _ _ => none) κ env h (.store n a x)) (fun p => R p.1 p.2) := ⟨fun ⟨n, v, h', e, q⟩ => ⟨(v, h'), e, q⟩, fun ⟨⟨v, h'⟩, e, q⟩ => ⟨0, v, h', e, q⟩⟩
@[simp ↓] theorem RB_append (e : TypeId) (k b : Nat) (s x : Opd) : Ro X κ (.append e k b s x) env h R ↔ bindO (aOp (fun _ _ _ => none) (fun _ _ => none) κ env h (.append e k b s x)) (fun p => R p.1 p.2) := ⟨fun ⟨n, v, h', e, q⟩ => ⟨(v, h'), e, q⟩, fun ⟨⟨v, h'⟩, e, q⟩ => ⟨0, v, h', e, q⟩⟩
@[simp ↓] theorem RB_copy (k : Nat) (d x : Opd) : Ro X κ (.copy k d x) env h R ↔ bindO (aOp (fun _ _ _ => none) (fun _ _ => none) κ env h (.copy k d x)) (fun p => R p.1 p.2) := ⟨fun ⟨n, v, h', e, q⟩ => ⟨(v, h'), e, q⟩, fun ⟨⟨v, h'⟩, e, q⟩ => ⟨0, v, h', e, q⟩⟩
@[simp ↓] theorem RB_nextS (x : Opd) : Ro X κ (.nextS x) env h R ↔ bindO (aOp (fun _ _ _ => none) (fun _ _ => none) κ env h (.nextS x)) (fun p => R p.1 p.2) := ⟨fun ⟨n, v, h', e, q⟩ => ⟨(v, h'), e, q⟩, fun ⟨⟨v, h'⟩, e, q⟩ => ⟨0, v, h', e, q⟩⟩
@[simp ↓] theorem RB_clear (k : Nat) (z : List Value) (s : Opd) : Ro X κ (.clear k z s) env h R ↔ bindO (aOp (fun _ _ _ => none) (fun _ _ => none) κ env h (.clear k z s)) (fun p => R p.1 p.2) := ⟨fun ⟨n, v, h', e, q⟩ => ⟨(v, h'), e, q⟩, fun ⟨⟨v, h'⟩, e, q⟩ => ⟨0, v, h', e, q⟩⟩
@[simp ↓] theorem RB_insert (m k x : Opd) : Ro X κ (.insert m k x) env h R ↔ bindO (aOp (fun _ _ _ => none) (fun _ _ => none) κ env h (.insert m k x)) (fun p => R p.1 p.2) := ⟨fun ⟨n, v, h', e, q⟩ => ⟨(v, h'), e, q⟩, fun ⟨⟨v, h'⟩, e, q⟩ => ⟨0, v, h', e, q⟩⟩
end ops
theorem set_push {x y : AObj} {i : Nat} : (h.push x).setIfInBounds i y = if i = h.size then h.push y else (h.setIfInBounds i y).push x := by
  apply Array.ext_getElem?
  intro j
  by_cases hi : i = h.size
  · subst hi
    rw [if_pos rfl, Array.getElem?_setIfInBounds, Array.getElem?_push, Array.getElem?_push]
    by_cases hj : j = h.size
    · subst hj; simp
    · rw [if_neg (fun e => hj e.symm), if_neg hj, if_neg hj]
  · rw [if_neg hi, Array.getElem?_setIfInBounds, Array.getElem?_push, Array.getElem?_push, Array.getElem?_setIfInBounds]
    by_cases hij : i = j
    · subst hij
      rw [if_pos rfl]
      simp only [Array.size_push, Array.size_setIfInBounds, if_neg hi, if_true]
      by_cases hlt : i < h.size
      · rw [if_pos (by omega), if_pos hlt]
      · rw [if_neg (by omega), if_neg hlt]
    · rw [if_neg hij, if_neg hij, Array.size_setIfInBounds]
def cellsOfO : AObj → Option (List Value)
  | .cells c _ => some c
  | _ => none
@[simp] theorem cellsOfO_cells {c : List Value} {e : TypeId} : cellsOfO (.cells c e) = some c := rfl
@[simp] theorem cellsOfO_dead : cellsOfO .dead = none := rfl
@[simp] theorem cellsAt_push {x : AObj} {b : Nat} : Heap.cellsAt (h.push x) b = if b = h.size then cellsOfO x else Heap.cellsAt h b := by
  unfold Heap.cellsAt
  rw [Array.getElem?_push]
  by_cases hb : b = h.size
  · rw [if_pos hb, if_pos hb]; cases x <;> rfl
  · rw [if_neg hb, if_neg hb]
@[simp] theorem mayPut_nil {f b : Nat} {vs : List Value} : mayPut ⟨f, []⟩ b vs = decide (f ≤ b) := by simp [mayPut]
theorem wr_def {b off : Nat} {vs : List Value} {f : Nat} {c : List Value} {e : TypeId} (hb : h[b]? = some (.cells c e)) : wr ⟨f, []⟩ h b off vs = if f ≤ b ∧ vs.all one = true ∧ off + vs.length ≤ c.length then some (h.setIfInBounds b (.cells (putAt c off vs) e)) else none := by
  unfold wr
  rw [hb]
  simp only [mayPut_nil, Bool.and_eq_true, decide_eq_true_eq, and_assoc]
def wrO (x : AObj) (off : Nat) (vs : List Value) : Option AObj :=
  match x with
  | .cells c e => if vs.all one = true ∧ off + vs.length ≤ c.length then some (.cells (putAt c off vs) e) else none
  | _ => none
@[simp] theorem wrO_cells {c : List Value} {e : TypeId} {off : Nat} {vs : List Value} : wrO (.cells c e) off vs = if vs.all one = true ∧ off + vs.length ≤ c.length then some (.cells (putAt c off vs) e) else none := rfl
theorem wr_push {x : AObj} {b off : Nat} {vs : List Value} {f : Nat} : wr ⟨f, []⟩ (h.push x) b off vs = if b = h.size then (if f ≤ b then (wrO x off vs).map (h.push ·) else none) else (wr ⟨f, []⟩ h b off vs).map (·.push x) := by
  by_cases hb : b = h.size
  · subst hb
    rw [if_pos rfl]
    cases x with
    | cells c e =>
      rw [wr_def (c := c) (e := e) (by simp)]
      simp only [wrO_cells]
      by_cases h1 : f ≤ h.size
      · rw [if_pos h1]
        by_cases h2 : vs.all one = true ∧ off + vs.length ≤ c.length
        · rw [if_pos ⟨h1, h2⟩, if_pos h2, set_push, if_pos rfl]; rfl
        · rw [if_neg (fun q => h2 q.2), if_neg h2]; rfl
      · rw [if_neg (fun q => h1 q.1), if_neg h1]
    | _ => simp [wr, wrO]
  · rw [if_neg hb]
    unfold wr
    rw [Array.getElem?_push, if_neg hb]
    cases hx : h[b]? with
    | none => rfl
    | some o =>
      cases o with
      | cells c e =>
        dsimp only
        split
        · simp only [Option.map_some, set_push, if_neg hb]
        · rfl
      | _ => rfl
@[simp] theorem rd1_ptr {b o : Nat} : rd1 h (.pointer (some ⟨b, o, none⟩)) = (h.cellsAt b).bind fun c => c[o]? := rfl
@[simp] theorem rdN_ptr {n b o : Nat} : rdN h n (.pointer (some ⟨b, o, none⟩)) = (h.cellsAt b).bind fun c => (grab c o n).map fun l => .agg l.toArray := rfl
@[simp] theorem addr_add {b o n : Nat} : (⟨b, o, none⟩ : Addr).add n = ⟨b, o + n, none⟩ := by
  unfold Addr.add; by_cases hn : n = 0
  · subst hn; simp
  · rw [if_neg hn]
@[simp] theorem Flag_plain {n : Nat} : Flag.plain.ctx κ n = κ := rfl
@[simp] theorem Flag_pure {f n : Nat} : Flag.pure.ctx ⟨f, []⟩ n = ⟨n, []⟩ := rfl
@[simp] theorem tup_one {v : Value} : tup [v] = v := rfl
@[simp ↓] theorem EndsQ_ret {rs : List ARes} {fl : Flag} {h0 h' : Heap} {v : Value} : EndsQ rs fl h0 v h' .ret env h ↔ bindO (resOf env h rs) fun vs => finish fl h0 h (tup vs) = some (v, h') := Iff.rfl
@[simp ↓] theorem EndsQ_normal {rs : List ARes} {fl : Flag} {h0 h' : Heap} {v : Value} : EndsQ rs fl h0 v h' .normal env h ↔ bindO (resOf env h rs) fun vs => finish fl h0 h (tup vs) = some (v, h') := Iff.rfl
@[simp] theorem finish_plain {h0 : Heap} {v : Value} : finish .plain h0 h v = some (v, h) := rfl
theorem finish_pure {h0 : Heap} {v : Value} (hv : vBelow h0.size v = true) : finish .pure h0 h v = some (v, h0) := by
  simp [finish, outTop, hv]
@[simp] theorem resOf_nil : resOf env h [] = some [] := rfl
@[simp] theorem resOf_tmp {t : Nat} {rs : List ARes} : resOf env h (.tmp t :: rs) = (resOf env h rs).map (env t :: ·) := by
  rw [resOf]; cases resOf env h rs <;> rfl
@[simp] theorem resOf_cell1 {t : Nat} {rs : List ARes} : resOf env h (.cell1 t :: rs) = (rd1 h (env t)).bind fun v => (resOf env h rs).map (v :: ·) := by
  rw [resOf]; cases rd1 h (env t) <;> cases resOf env h rs <;> rfl
@[simp] theorem resOf_cellN {t n : Nat} {rs : List ARes} : resOf env h (.cellN t n :: rs) = (rdN h n (env t)).bind fun v => (resOf env h rs).map (v :: ·) := by
  rw [resOf]; cases rdN h n (env t) <;> cases resOf env h rs <;> rfl
theorem all_one_nil : [].all one = true := rfl
theorem all_one_cons {v : Value} {l : List Value} : (v :: l).all one = (one v && l.all one) := rfl
theorem one_int {k : IntKind} {n : Int} : one (.int k n) = true := rfl
theorem one_bool {b : Bool} : one (.bool b) = true := rfl
theorem one_string {s : ByteArray} : one (.string s) = true := rfl
theorem one_slice {a : Option Addr} {n c : Nat} : one (.slice a n c) = true := rfl
theorem one_pointer {a : Option Addr} : one (.pointer a) = true := rfl
theorem cells_agg {a : Array Value} : (Value.agg a).cells = a := rfl
theorem cells_int {k : IntKind} {n : Int} : (Value.int k n).cells = #[.int k n] := rfl
theorem cells_bool {b : Bool} : (Value.bool b).cells = #[.bool b] := rfl
theorem cells_string {s : ByteArray} : (Value.string s).cells = #[.string s] := rfl
theorem cells_slice {a : Option Addr} {n c : Nat} : (Value.slice a n c).cells = #[.slice a n c] := rfl
theorem cells_pointer {a : Option Addr} : (Value.pointer a).cells = #[.pointer a] := rfl
theorem toList_mk {l : List Value} : (Array.mk l).toList = l := rfl
theorem size_mk {l : List Value} : (Array.mk l).size = l.length := rfl
end Go.AM
end

section
namespace Go.AM
attribute [simp] aVal aOp aNew fillL putAt wanted binV binI unV wr_push all_one_cons one_int one_bool one_string one_slice one_pointer cells_agg cells_int cells_bool cells_string cells_slice cells_pointer
@[simp] theorem grab_nil {o n : Nat} : grab [] o n = if o + n ≤ 0 then some [] else none := by simp [grab]
@[simp] theorem grab_cons {x : Value} {l : List Value} {o n : Nat} : grab (x :: l) o n = if o + n ≤ (x :: l).length then some (((x :: l).drop o).take n) else none := rfl
variable {X : Tab} {κ : Ctx} {env : Env} {h : Heap}
def pureOp : AOp → Bool
  | .store .. | .append .. | .copy .. | .nextS .. | .clear .. | .insert .. | .call .. | .invoke .. => false
  | .box .. | .alloc .. | .buildSlice .. | .makeSlice .. | .makeMap | .rangeS .. => false
  | _ => true
def newOp : AOp → Bool
  | .box .. | .alloc .. | .buildSlice .. | .makeSlice .. | .makeMap | .rangeS .. => true
  | _ => false
def memOp : AOp → Bool
  | .store .. | .append .. | .copy .. | .nextS .. | .clear .. | .insert .. => true
  | _ => false
@[simp] def aMem (κ : Ctx) (env : Env) (h : Heap) (o : AOp) : Option (Value × Heap) := aOp (fun _ _ _ => none) (fun _ _ => none) κ env h o
theorem w_val {o : AOp} {d : Option Nat} {v : Value} {R : Option Value → Env → Heap → Prop} (hd : pureOp o = true) (e : aVal env h o = some v) (K : R (some v) (put env d v) h) : Ri X κ ⟨d, o, none⟩ env h R := by
  refine Ri_plain.2 ((Ro_val ?_).2 ⟨v, e, K⟩)
  cases o <;> first | rfl | cases hd
theorem w_new {o : AOp} {d : Option Nat} {x : AObj} {mk : Nat → Value} {R : Option Value → Env → Heap → Prop} (hd : newOp o = true) (e : aNew env o = some (x, mk)) (K : R (some (mk h.size)) (put env d (mk h.size)) (h.push x)) : Ri X κ ⟨d, o, none⟩ env h R := by
  refine Ri_plain.2 ((Ro_new ?_ e).2 K)
  intro c m
  cases o <;> first | rfl | cases hd
theorem w_mem {o : AOp} {d : Option Nat} {v : Value} {h' : Heap} {R : Option Value → Env → Heap → Prop} (hd : memOp o = true) (e : aMem κ env h o = some (v, h')) (K : R (some v) (put env d v) h') : Ri X κ ⟨d, o, none⟩ env h R := by
  refine Ri_plain.2 ⟨0, v, h', ?_, K⟩
  cases o <;> first | exact e | cases hd
theorem w_call {f : Opd} {args : List Opd} {d : Option Nat} {v : Value} {h' : Heap} {R : Option Value → Env → Heap → Prop} (e : RunsV X κ (f.val env) (args.map (·.val env)) h v h') (K : R (some v) (put env d v) h') : Ri X κ ⟨d, .call f args, none⟩ env h R := by
  obtain ⟨n, e⟩ := e
  exact Ri_plain.2 ⟨n, v, h', e, K⟩
theorem w_guard_no {d : Option Nat} {o : AOp} {t : Nat} {w : Bool} {R : Option Value → Env → Heap → Prop} (hw : env t = .bool (!w)) (K : R none (put env d undef) h) : Ri X κ ⟨d, o, some (t, w)⟩ env h R := by
  refine Ri_guard.2 ?_
  rw [if_neg]
  · exact K
  · simp [wanted, hw]
theorem w_guard_undef {d : Option Nat} {o : AOp} {t : Nat} {w : Bool} {R : Option Value → Env → Heap → Prop} (hw : env t = undef) (K : R none (put env d undef) h) : Ri X κ ⟨d, o, some (t, w)⟩ env h R := by
  refine Ri_guard.2 ?_
  rw [if_neg]
  · exact K
  · simp [wanted, hw, undef]
theorem w_guard_yes {d : Option Nat} {o : AOp} {t : Nat} {w : Bool} {R : Option Value → Env → Heap → Prop} (hw : env t = .bool w) (K : Ri X κ ⟨d, o, none⟩ env h R) : Ri X κ ⟨d, o, some (t, w)⟩ env h R := by
  refine Ri_guard.2 ?_
  rw [if_pos]
  · exact Ri_plain.1 K
  · simp [wanted, hw]
theorem w_cond_true {c : Opd} {a b : ACode} {Q : AExit → Env → Heap → Prop} (hc : c.val env = .bool true) (K : Ok X κ a env h Q) : Ok X κ (.cond c a b) env h Q := Ok_cond.2 ⟨true, hc, by simpa using K⟩
theorem w_cond_false {c : Opd} {a b : ACode} {Q : AExit → Env → Heap → Prop} (hc : c.val env = .bool false) (K : Ok X κ b env h Q) : Ok X κ (.cond c a b) env h Q := Ok_cond.2 ⟨false, hc, by simpa using K⟩
theorem w_cond {c : Opd} {a b : ACode} {Q : AExit → Env → Heap → Prop} {t : Bool} (hc : c.val env = .bool t) (h1 : t = true → Ok X κ a env h Q) (h2 : t = false → Ok X κ b env h Q) : Ok X κ (.cond c a b) env h Q := by
  cases t with
  | true => exact w_cond_true hc (h1 rfl)
  | false => exact w_cond_false hc (h2 rfl)
theorem w_guard {d : Option Nat} {o : AOp} {t : Nat} {w b : Bool} {R : Option Value → Env → Heap → Prop} (hw : env t = .bool b) (h1 : b = w → Ri X κ ⟨d, o, none⟩ env h R) (h2 : b = !w → R none (put env d undef) h) : Ri X κ ⟨d, o, some (t, w)⟩ env h R := by
  by_cases hb : b = w
  · subst hb; exact w_guard_yes hw (h1 rfl)
  · have : b = !w := by cases b <;> cases w <;> simp_all
    exact w_guard_no (by rw [hw, this]) (h2 this)
theorem w_ends {rs : List ARes} {fl : Flag} {h0 h' : Heap} {v : Value} {vs : List Value} (e : resOf env h rs = some vs) (K : finish fl h0 h (tup vs) = some (v, h')) : EndsQ rs fl h0 v h' .ret env h := ⟨vs, e, K⟩
theorem w_endsn {rs : List ARes} {fl : Flag} {h0 h' : Heap} {v : Value} {vs : List Value} (e : resOf env h rs = some vs) (K : finish fl h0 h (tup vs) = some (v, h')) : EndsQ rs fl h0 v h' .normal env h := ⟨vs, e, K⟩
theorem w_drawn {is : List AIns} {j : Nat} {re : List Nat} {p : List (Nat × List Nat)} {snap : List (Nat × Env × Value)} {R : Env → Heap → Prop} {i : AIns} (hi : is[j]? = some i)
    (K : Ri X κ i env h (fun v e h' => snap.all (still is re h') = true ∧ RgD X κ is p (snapped j env v snap) e h' R)) : RgD X κ is ((j, re) :: p) snap env h R := (RgD_cons hi).2 K
def EndsR (rs : List ARes) (fl : Flag) (h : Heap) (R : Value → Heap → Prop) : AExit → Env → Heap → Prop
  | .exit _, _, _ => False
  | _, env, h1 => ∃ vs v h', resOf env h1 rs = some vs ∧ finish fl h h1 (tup vs) = some (v, h') ∧ R v h'
theorem callR_of {g : FuncId} {nt : Nat} {body : ACode} {rs : List ARes} {fl : Flag} {args : List Value} {R : Value → Heap → Prop} (he : X.ext g = none) (hf : X.fn g = some ⟨nt, body, rs, fl⟩)
    (hb : Ok X (fl.ctx κ h.size) body (env0 args) h (EndsR rs fl h R)) : callR X κ g args h R := by
  obtain ⟨n, ex, e1, h1, e, q⟩ := hb
  cases ex with
  | exit i => exact q.elim
  | normal => obtain ⟨vs, v, h', q1, q2, q3⟩ := q; exact ⟨v, h', ⟨n + 1, by rw [callF, he]; simp only [hf, e, q1, q2]⟩, q3⟩
  | ret => obtain ⟨vs, v, h', q1, q2, q3⟩ := q; exact ⟨v, h', ⟨n + 1, by rw [callF, he]; simp only [hf, e, q1, q2]⟩, q3⟩
theorem w_endr {rs : List ARes} {fl : Flag} {h0 h' : Heap} {v : Value} {vs : List Value} {R : Value → Heap → Prop} (e : resOf env h rs = some vs) (K : finish fl h0 h (tup vs) = some (v, h')) (q : R v h') : EndsR rs fl h0 R .ret env h := ⟨vs, v, h', e, K, q⟩
theorem w_endp {rs : List ARes} {h0 : Heap} {vs : List Value} {R : Value → Heap → Prop} (e : resOf env h rs = some vs) (q : R (tup vs) h) : EndsR rs .plain h0 R .ret env h := ⟨vs, _, _, e, rfl, q⟩
theorem callR.mono {g : FuncId} {args : List Value} {R R' : Value → Heap → Prop} (a : callR X κ g args h R) (hr : ∀ v h', R v h' → R' v h') : callR X κ g args h R' := by
  obtain ⟨v, h', r, q⟩ := a; exact ⟨v, h', r, hr _ _ q⟩
theorem w_callR {g : FuncId} {first cap : Array Value} {f : Opd} {args : List Opd} {d : Option Nat} {S : Value → Heap → Prop} {R : Option Value → Env → Heap → Prop} (hf : f.val env = .func (.func g) first cap) {as : List Value}
    (ha : first.toList ++ args.map (·.val env) ++ cap.toList = as) (e : callR X κ g as h S) (K : ∀ v h', S v h' → R (some v) (put env d v) h') : Ri X κ ⟨d, .call f args, none⟩ env h R := by
  obtain ⟨v, h', r, q⟩ := e
  refine w_call (v := v) (h' := h') ?_ (K v h' q)
  rw [hf, RunsV_func, ha]; exact r
theorem w_loop {A : Type} {body : ACode} {Q : AExit → Env → Heap → Prop} (I : A → Env → Heap → Prop) (μ : A → Nat) {a0 : A} (h0 : I a0 env h)
    (step : ∀ a env h, I a env h → Ok X κ body env h (thenQ (fun e h => ∃ a', I a' e h ∧ μ a' < μ a) Q)) : Ok X κ (.loop body) env h Q := by
  have key : ∀ n a env h, μ a = n → I a env h → Ok X κ (.loop body) env h Q := by
    intro n
    induction n using Nat.strongRecOn with
    | _ n ih =>
      intro a env h hn hI
      rw [Ok_loop]
      refine (step a env h hI).mono fun ex e h' hq => ?_
      cases ex with
      | normal => obtain ⟨a', h1, h2⟩ := hq; exact ih (μ a') (hn ▸ h2) a' e h' rfl h1
      | exit i => exact hq
      | ret => exact hq
  exact key _ a0 env h rfl h0
end Go.AM
end

section
namespace Go.AM
variable {h : Heap} {f : Nat}
def Buf (f : Nat) (h : Heap) (e : TypeId) (k : Nat) (v : Value) (l : List Value) : Prop :=
  (v = .slice none 0 0 ∧ l = []) ∨ ∃ b n, v = .slice (some ⟨b, 0, none⟩) n n ∧ n * k = l.length ∧ h[b]? = some (.cells l e) ∧ f ≤ b
def blk : Value → Option Nat
  | .slice (some a) _ _ => some a.block
  | _ => none
def KeepB (h h' : Heap) (b : Option Nat) : Prop := h.size ≤ h'.size ∧ ∀ x, x < h.size → b ≠ some x → h'[x]? = h[x]?
theorem KeepB.refl (h : Heap) (b : Option Nat) : KeepB h h b := ⟨Nat.le_refl _, fun _ _ _ => rfl⟩
theorem append_buf {e : TypeId} {k by_ n m : Nat} {v x : Value} {l l2 : List Value} (hk : 0 < k) (hfs : f ≤ h.size) (hb : Buf f h e k v l) (hx : srcCells h k x = some (m, l2)) (hm : 0 < m) (hn : n * k = l.length) (h1 : l.all one = true) (h2 : l2.all one = true)
    (hs : (n + m) * by_ ≤ 140737488355328) (hs2 : n + m ≤ 35184372088832) (hl2 : l2.length = m * k) :
    ∃ v' h', aAppend ⟨f, []⟩ h e k by_ v x = some (v', h') ∧ Buf f h' e k v' (l ++ l2) ∧ KeepB h h' (blk v) ∧ blk v' = some h.size := by
  rcases hb with ⟨rfl, rfl⟩ | ⟨b, n', rfl, hn', hc, hf⟩
  · have hn0 : n = 0 := by
      rcases Nat.mul_eq_zero.1 hn with q | q
      · exact q
      · omega
    subst hn0
    simp only [Nat.zero_add] at hs hs2
    refine ⟨.slice (some ⟨h.size, 0, none⟩) m m, h.push (.cells l2 e), ?_, .inr ⟨h.size, m, rfl, by simp [hl2], by simp, hfs⟩, ⟨by simp, fun y hy _ => ?_⟩, rfl⟩
    · unfold aAppend
      simp only [hx, Option.any_none, Bool.false_eq_true, if_false, Nat.zero_add]
      rw [if_neg (by omega), if_neg (by omega)]
      simp [h2]
    · rw [Array.getElem?_push_lt hy, ← Array.getElem?_eq_getElem]
  · have hnn : n' = n := Nat.eq_of_mul_eq_mul_right hk (hn'.trans hn.symm)
    subst hnn
    have hbl := (Array.getElem?_eq_some_iff.1 hc).1
    have hsrc : srcCells h k (.slice (some ⟨b, 0, none⟩) n' n') = some (n', l) := by
      unfold srcCells
      by_cases h0 : n' * k = 0
      · have : l = [] := by cases l with | nil => rfl | cons a l => simp at hn; omega
        subst this; simp [h0]
      · simp only [Option.isSome_none, Bool.false_eq_true, if_false, if_neg h0, Heap.cellsAt, hc, Option.bind_some, grab, Nat.zero_add]
        rw [if_pos (by omega)]; simp [hn]
    refine ⟨.slice (some ⟨h.size, 0, none⟩) (n' + m) (n' + m), (h.setIfInBounds b .dead).push (.cells (l ++ l2) e), ?_, .inr ⟨h.size, n' + m, rfl, by rw [Nat.add_mul, List.length_append, hn, hl2], by rw [Array.getElem?_push, if_pos (by simp)], hfs⟩, ⟨by simp, fun y hy hne => ?_⟩, rfl⟩
    · unfold aAppend
      simp only [hx, hsrc, hc]
      rw [if_neg (by simp), if_neg (by omega), if_neg (by omega)]
      simp [hf, h1, h2]
    · have hyb : b ≠ y := fun q => hne (by simp [blk, q])
      rw [Array.getElem?_push_lt (by simp; exact hy), ← Array.getElem?_eq_getElem, Array.getElem?_setIfInBounds, if_neg hyb]
theorem Buf.push {e : TypeId} {k : Nat} {v : Value} {l : List Value} (hb : Buf f h e k v l) (x : AObj) : Buf f (h.push x) e k v l := by
  rcases hb with q | ⟨b, n, q1, q2, q3, q4⟩
  · exact .inl q
  · refine .inr ⟨b, n, q1, q2, ?_, q4⟩
    have := (Array.getElem?_eq_some_iff.1 q3).1
    rw [Array.getElem?_push_lt this, ← Array.getElem?_eq_getElem]; exact q3
structure Grow (f : Nat) (e : TypeId) (k : Nat) (h0 h : Heap) (v0 v : Value) (l : List Value) : Prop where
  buf : Buf f h e k v l
  keep : KeepB h0 h (blk v0)
  blk : blk v = blk v0 ∨ ∃ b, blk v = some b ∧ h0.size ≤ b
  fs : f ≤ h.size
  one : l.all one = true
theorem Grow.refl {e : TypeId} {k : Nat} {v : Value} {l : List Value} (hb : Buf f h e k v l) (hfs : f ≤ h.size) (h1 : l.all Go.AM.one = true) : Grow f e k h h v v l := ⟨hb, .refl _ _, .inl rfl, hfs, h1⟩
theorem Grow.push {e : TypeId} {k : Nat} {h0 : Heap} {v0 v : Value} {l : List Value} (g : Grow f e k h0 h v0 v l) (x : AObj) : Grow f e k h0 (h.push x) v0 v l := by
  refine ⟨g.buf.push x, ⟨by simp; have := g.keep.1; omega, fun y hy hne => ?_⟩, g.blk, by simp; have := g.fs; omega, g.one⟩
  have := g.keep.1
  rw [Array.getElem?_push_lt (by omega), ← Array.getElem?_eq_getElem]; exact g.keep.2 y hy hne
theorem Grow.append {e : TypeId} {k by_ n m : Nat} {h0 : Heap} {v0 v x : Value} {l l2 : List Value} (g : Grow f e k h0 h v0 v l) (hk : 0 < k) (hx : srcCells h k x = some (m, l2)) (hm : 0 < m) (hn : n * k = l.length) (h2 : l2.all Go.AM.one = true)
    (hs : (n + m) * by_ ≤ 140737488355328) (hs2 : n + m ≤ 35184372088832) (hl2 : l2.length = m * k) :
    ∃ v' h', aAppend ⟨f, []⟩ h e k by_ v x = some (v', h') ∧ Grow f e k h0 h' v0 v' (l ++ l2) := by
  obtain ⟨v', h', q1, q2, q3, q4⟩ := append_buf hk g.fs g.buf hx hm hn g.one h2 hs hs2 hl2
  have hsz := g.keep.1
  refine ⟨v', h', q1, q2, ⟨by have := q3.1; omega, fun y hy hne => ?_⟩, .inr ⟨h.size, q4, hsz⟩, by have := q3.1; have := g.fs; omega, by rw [List.all_append, g.one, h2]; rfl⟩
  rw [q3.2 y (by omega) ?_, g.keep.2 y hy hne]
  rcases g.blk with e' | ⟨b, e', hb⟩
  · rw [e']; exact hne
  · rw [e']; intro q; cases q; omega
theorem Grow.append1 {h0 : Heap} {v0 v x : Value} {l : List Value} (g : Grow f 5 1 h0 h v0 v l) (hl : l.length ≤ 1000000) (hx : Go.AM.one x = true) :
    ∃ v' h', aAppend ⟨f, []⟩ (h.push (.cells [x] 5)) 5 1 1 v (.slice (some ⟨h.size, 0, none⟩) 1 1) = some (v', h') ∧ Grow f 5 1 h0 h' v0 v' (l ++ [x]) :=
  (g.push (.cells [x] 5)).append (by_ := 1) (n := l.length) (m := 1) (by omega) (by simp [srcCells, grab]) (by omega) (by simp) (by simp [hx]) (by omega) (by omega) rfl
end Go.AM
end

section
namespace Go.AM
variable {X : Tab} {κ : Ctx} {env : Env} {h : Heap}
theorem w_callP {g : FuncId} {first cap : Array Value} {f : Opd} {args : List Opd} {d : Option Nat} {v : Value} {h' : Heap} {R : Option Value → Env → Heap → Prop} {as : List Value} (hf : f.val env = .func (.func g) first cap)
    (ha : first.toList ++ args.map (·.val env) ++ cap.toList = as) (e : Runs X κ g as h v h') (K : R (some v) (put env d v) h') : Ri X κ ⟨d, .call f args, none⟩ env h R := by
  refine w_call (v := v) (h' := h') ?_ K
  rw [hf, RunsV_func, ha]; exact e
theorem w_endP {rs : List ARes} {h0 : Heap} {v : Value} {vs : List Value} (e : resOf env h rs = some vs) (b : vBelow h0.size v = true) (q : tup vs = v) : EndsQ rs .pure h0 v h0 .ret env h := ⟨vs, e, by rw [q]; exact finish_pure b⟩
theorem w_endPn {rs : List ARes} {h0 : Heap} {v : Value} {vs : List Value} (e : resOf env h rs = some vs) (b : vBelow h0.size v = true) (q : tup vs = v) : EndsQ rs .pure h0 v h0 .normal env h := ⟨vs, e, by rw [q]; exact finish_pure b⟩
theorem w_endPr {rs : List ARes} {h0 : Heap} {R : Value → Heap → Prop} {vs : List Value} (e : resOf env h rs = some vs) (b : vBelow h0.size (tup vs) = true) (q : R (tup vs) h0) : EndsR rs .pure h0 R .ret env h := ⟨vs, tup vs, h0, e, finish_pure b, q⟩
theorem w_endpn {rs : List ARes} {h0 : Heap} {vs : List Value} {R : Value → Heap → Prop} (e : resOf env h rs = some vs) (q : R (tup vs) h) : EndsR rs .plain h0 R .normal env h := ⟨vs, _, _, e, rfl, q⟩
theorem callR.toRuns {g : FuncId} {args : List Value} {v : Value} {h' : Heap} (a : callR X κ g args h (fun w h1 => w = v ∧ h1 = h')) : Runs X κ g args h v h' := by
  obtain ⟨w, h1, r, rfl, rfl⟩ := a; exact r
theorem callR.of {g : FuncId} {args : List Value} {v : Value} {h' : Heap} {R : Value → Heap → Prop} (a : Runs X κ g args h v h') (q : R v h') : callR X κ g args h R := ⟨v, h', a, q⟩
theorem still_nils {is : List AIns} {h : Heap} {snap : List (Nat × Env × Value)} : snap.all (still is [] h) = true := by
  rw [List.all_eq_true]; intro x _; simp [still]
theorem w_still {is : List AIns} {re : List Nat} {h : Heap} {snap : List (Nat × Env × Value)} {K : Prop} (a : snap.all (still is re h) = true) (k : K) : snap.all (still is re h) = true ∧ K := ⟨a, k⟩
theorem wrapI {n : Int} (hn : -9223372036854775808 ≤ n ∧ n ≤ 9223372036854775807) : IntKind.i64.wrap n = n := by
  simp only [IntKind.wrap, IntKind.bits, IntKind.signed]
  simp
  omega
theorem wadd {i : Nat} (hi : i ≤ 4611686018427387904) : IntKind.i64.wrap ((i : Int) + 1) = (i : Int) + 1 := wrapI (by omega)
theorem wsub {i : Nat} (h0 : 0 < i) (hi : i ≤ 4611686018427387904) : IntKind.i64.wrap ((i : Int) - 1) = ((i - 1 : Nat) : Int) := by rw [wrapI (by omega)]; omega
def andO (b : Bool) (o : Option Bool) : Option Bool := if b then o else some false
@[simp] theorem andO_some {b c : Bool} : andO b (some c) = some (b && c) := by cases b <;> rfl
@[simp] theorem eqs_nil : eqs [] [] [] = some true := rfl
@[simp] theorem eqs_i {ks : List EqK} {l m : List Value} {k : IntKind} {a b : Int} : eqs (.i :: ks) (.int k a :: l) (.int k b :: m) = andO (a == b) (eqs ks l m) := by
  simp only [eqs, eqK, if_true]; cases a == b <;> rfl
@[simp] theorem eqs_b {ks : List EqK} {l m : List Value} {a b : Bool} : eqs (.b :: ks) (.bool a :: l) (.bool b :: m) = andO (a == b) (eqs ks l m) := by
  simp only [eqs, eqK]; cases a == b <;> rfl
@[simp] theorem eqs_s {ks : List EqK} {l m : List Value} {a b : ByteArray} : eqs (.s :: ks) (.string a :: l) (.string b :: m) = andO (a.toList == b.toList) (eqs ks l m) := by
  simp only [eqs, eqK]; cases a.toList == b.toList <;> rfl
attribute [simp] eqV eqK
theorem Buf.lt {f : Nat} {e : TypeId} {k : Nat} {v : Value} {l : List Value} (hb : Buf f h e k v l) {b : Nat} (q : blk v = some b) : b < h.size := by
  rcases hb with ⟨rfl, rfl⟩ | ⟨b', n, rfl, _, hc, _⟩
  · cases q
  · cases q; exact (Array.getElem?_eq_some_iff.1 hc).1
theorem Grow.get {f : Nat} {e : TypeId} {k : Nat} {h0 : Heap} {v0 v : Value} {l : List Value} (g : Grow f e k h0 h v0 v l) {x : Nat} (hx : x < h0.size) (hne : Go.AM.blk v0 ≠ some x) : h[x]? = h0[x]? := g.keep.2 x hx hne
theorem Grow.cells {f : Nat} {e : TypeId} {k : Nat} {h0 : Heap} {v0 v : Value} {l : List Value} (g : Grow f e k h0 h v0 v l) {x : Nat} (hx : x < h0.size) (hne : Go.AM.blk v0 ≠ some x) : h.cellsAt x = h0.cellsAt x := by
  unfold Heap.cellsAt; rw [g.get hx hne]
theorem Grow.trans {f : Nat} {e : TypeId} {k : Nat} {h0 h1 h2 : Heap} {v0 v1 v2 : Value} {l1 l2 : List Value} (a : Grow f e k h0 h1 v0 v1 l1) (b : Grow f e k h1 h2 v1 v2 l2) : Grow f e k h0 h2 v0 v2 l2 := by
  have s1 := a.keep.1
  have s2 := b.keep.1
  refine ⟨b.buf, ⟨by omega, fun x hx hne => ?_⟩, ?_, b.fs, b.one⟩
  · rw [b.keep.2 x (by omega) ?_, a.keep.2 x hx hne]
    rcases a.blk with q | ⟨y, q, hy⟩
    · rw [q]; exact hne
    · rw [q]; intro q2; cases q2; omega
  · rcases b.blk with q | ⟨y, q, hy⟩
    · rw [q]; exact a.blk
    · exact .inr ⟨y, q, by omega⟩
theorem Grow.pre {f : Nat} {e : TypeId} {k : Nat} {h0 : Heap} {v0 v : Value} {l : List Value} {x : AObj} (g : Grow f e k (h0.push x) h v0 v l) : Grow f e k h0 h v0 v l := by
  have s1 := g.keep.1
  simp at s1
  refine ⟨g.buf, ⟨by omega, fun y hy hne => ?_⟩, ?_, g.fs, g.one⟩
  · rw [g.keep.2 y (by simp; omega) hne, Array.getElem?_push, if_neg (by omega)]
  · rcases g.blk with q | ⟨y, q, hy⟩
    · exact .inl q
    · simp at hy; exact .inr ⟨y, q, by omega⟩
end Go.AM
namespace Go.AM
theorem RgD_plain {X : Tab} {κ : Ctx} {is : List AIns} : ∀ {p : List (Nat × List Nat)} {snap : List (Nat × Env × Value)} {env : Env} {h : Heap} {R : Env → Heap → Prop}, p.all (fun q => q.2.isEmpty && decide (q.1 < is.length)) = true →
    Rg X κ (p.filterMap fun q => is[q.1]?) env h R → RgD X κ is p snap env h R
  | [], snap, env, h, R, hp, K => RgD_nil.2 (Rg_nil.1 K)
  | (j, re) :: p, snap, env, h, R, hp, K => by
    simp only [List.all_cons, Bool.and_eq_true, decide_eq_true_eq, List.isEmpty_iff] at hp
    obtain ⟨⟨rfl, hj⟩, hp⟩ := hp
    have hi : is[j]? = some is[j] := List.getElem?_eq_getElem hj
    rw [List.filterMap_cons, hi] at K
    refine (RgD_cons hi).2 ?_
    obtain ⟨n, v, e1, h1, hv, K2⟩ := Rg_cons.1 K
    exact ⟨n, v, e1, h1, hv, still_nils, RgD_plain hp K2⟩
end Go.AM
namespace Go.AM
variable {X : Tab} {κ : Ctx} {env : Env} {h : Heap}
def GV (x : Value) (w : Bool) (Y N : Prop) : Prop := (x = .bool w ∧ Y) ∨ ((x = .bool (!w) ∨ x = undef) ∧ N)
theorem gv_tt {Y N : Prop} (y : Y) : GV (.bool true) true Y N := .inl ⟨rfl, y⟩
theorem gv_ff {Y N : Prop} (y : Y) : GV (.bool false) false Y N := .inl ⟨rfl, y⟩
theorem gv_ft {Y N : Prop} (n : N) : GV (.bool false) true Y N := .inr ⟨.inl rfl, n⟩
theorem gv_tf {Y N : Prop} (n : N) : GV (.bool true) false Y N := .inr ⟨.inl rfl, n⟩
theorem gv_u {Y N : Prop} {w : Bool} (n : N) : GV undef w Y N := .inr ⟨.inr rfl, n⟩
theorem gv_split {Y N : Prop} {t w : Bool} (y : t = w → Y) (n : t = !w → N) : GV (.bool t) w Y N := by
  by_cases e : t = w
  · exact .inl ⟨by rw [e], y e⟩
  · have : t = !w := by cases t <;> cases w <;> simp_all
    exact .inr ⟨.inl (by rw [this]), n this⟩
theorem w_guardV {d : Option Nat} {o : AOp} {t : Nat} {w : Bool} {x : Value} {R : Option Value → Env → Heap → Prop} (hw : env t = x) (K : GV x w (Ri X κ ⟨d, o, none⟩ env h R) (R none (put env d undef) h)) : Ri X κ ⟨d, o, some (t, w)⟩ env h R := by
  rcases K with ⟨e, k⟩ | ⟨e | e, k⟩
  · exact w_guard_yes (by rw [hw, e]) k
  · exact w_guard_no (by rw [hw, e]) k
  · exact w_guard_undef (by rw [hw, e]) k
theorem w_condV {c : Opd} {a b : ACode} {Q : AExit → Env → Heap → Prop} {t : Bool} (hc : c.val env = .bool t) (K : GV (.bool t) true (Ok X κ a env h Q) (Ok X κ b env h Q)) : Ok X κ (.cond c a b) env h Q := by
  rcases K with ⟨e, k⟩ | ⟨e | e, k⟩
  · cases e; exact w_cond_true hc k
  · cases e; exact w_cond_false hc k
  · cases e
end Go.AM
namespace Go.AM
/-! ### the walker's steps, by short names, since they stand in each walk
Whatever asks for a value asks for it first ('lhs = value', closed by simp); what is left is named by 'KK' (go on), 'GV' (a test) or 'Runs' (a call). -/
variable {X : Tab} {κ : Ctx} {env : Env} {h : Heap}
structure KK (p : Prop) : Prop where k : p
structure KB (b : Bool) (p : Prop) : Prop where
  (b : b = true) (k : p)
structure KC (b : Bool) (p : Prop) : Prop where
  (b : b = true) (k : p)
theorem zo {b : Bool} {p : Prop} (e : b = true) (k : p) : KC b p := ⟨e, k⟩
theorem zk {p : Prop} (k : p) : KK p := ⟨k⟩
theorem zn {b : Bool} {p : Prop} (e : b = true) (k : p) : KB b p := ⟨e, k⟩
attribute [simp] still snapped veq veq1 veqs
theorem za {a b : ACode} {Q : AExit → Env → Heap → Prop} (k : Ok X κ a env h (thenQ (fun e h => Ok X κ b e h Q) Q)) : Ok X κ (.seq a b) env h Q := Ok_seq.2 k
theorem zb {is : List AIns} {Q : AExit → Env → Heap → Prop} (k : Rg X κ is env h (fun e h => Q .normal e h)) : Ok X κ (.reg is) env h Q := Ok_reg.2 k
theorem zc {id : Nat} {a : ACode} {Q : AExit → Env → Heap → Prop} (k : Ok X κ a env h (blockQ id Q)) : Ok X κ (.block id a) env h Q := Ok_block.2 k
theorem zd {Q : AExit → Env → Heap → Prop} (k : Q .ret env h) : Ok X κ .ret env h Q := Ok_ret.2 k
theorem ze {Q : AExit → Env → Heap → Prop} (k : Q .normal env h) : Ok X κ .skip env h Q := Ok_skip.2 k
theorem zf {i : Nat} {Q : AExit → Env → Heap → Prop} (k : Q (.exit i) env h) : Ok X κ (.exit i) env h Q := Ok_exit.2 k
theorem zg {i : AIns} {is : List AIns} {R : Env → Heap → Prop} (k : Ri X κ i env h (fun _ e h => Rg X κ is e h R)) : Rg X κ (i :: is) env h R := Rg_cons.2 k
theorem zh {R : Env → Heap → Prop} (k : R env h) : Rg X κ [] env h R := Rg_nil.2 k
theorem zi {is : List AIns} {p : List (Nat × List Nat)} {Q : AExit → Env → Heap → Prop} (k : RgD X κ is p [] env h (fun e h => Q .normal e h)) : Ok X κ (.regD is p) env h Q := Ok_regD.2 k
theorem zj {is : List AIns} {snap : List (Nat × Env × Value)} {R : Env → Heap → Prop} (k : R env h) : RgD X κ is [] snap env h R := RgD_nil.2 k
theorem zl {is : List AIns} {h : Heap} {snap : List (Nat × Env × Value)} {K : Prop} (k : K) : snap.all (still is [] h) = true ∧ K := ⟨still_nils, k⟩
theorem zm {a : ACode} {Q : AExit → Env → Heap → Prop} (k : Ok X κ a env h (thenQ (fun e h => Ok X κ (.loop a) e h Q) Q)) : Ok X κ (.loop a) env h Q := Ok_loop.2 k
theorem zs {is : List AIns} {re : List Nat} {h : Heap} {snap : List (Nat × Env × Value)} {K : Prop} (a : snap.all (still is re h) = true) (k : KK K) : snap.all (still is re h) = true ∧ K := ⟨a, k.k⟩
theorem zt {o : AOp} {d : Option Nat} {v : Value} {R : Option Value → Env → Heap → Prop} (hd : pureOp o = true) (e : aVal env h o = some v) (K : KK (R (some v) (put env d v) h)) : Ri X κ ⟨d, o, none⟩ env h R := w_val hd e K.k
theorem zu {o : AOp} {d : Option Nat} {x : AObj} {mk : Nat → Value} {R : Option Value → Env → Heap → Prop} (hd : newOp o = true) (e : aNew env o = some (x, mk)) (K : KK (R (some (mk h.size)) (put env d (mk h.size)) (h.push x))) : Ri X κ ⟨d, o, none⟩ env h R := w_new hd e K.k
theorem zv {o : AOp} {d : Option Nat} {v : Value} {h' : Heap} {R : Option Value → Env → Heap → Prop} (hd : memOp o = true) (e : aMem κ env h o = some (v, h')) (K : KK (R (some v) (put env d v) h')) : Ri X κ ⟨d, o, none⟩ env h R := w_mem hd e K.k
def callee (f : Value) (args : List Value) : Option (FuncId × List Value) := match f with
  | .func (.func g) first cap => some (g, first.toList ++ args ++ cap.toList)
  | _ => none
@[simp] theorem callee_func {g : FuncId} {first cap : Array Value} {args : List Value} : callee (.func (.func g) first cap) args = some (g, first.toList ++ args ++ cap.toList) := rfl
theorem callee_runs {f : Value} {args as : List Value} {g : FuncId} {v : Value} {h' : Heap} (c : callee f args = some (g, as)) (e : Runs X κ g as h v h') : RunsV X κ f args h v h' := by
  unfold callee at c
  split at c
  · cases c; rw [RunsV_func]; exact e
  · cases c
theorem zw {g : FuncId} {f : Opd} {args : List Opd} {d : Option Nat} {v : Value} {h' : Heap} {R : Option Value → Env → Heap → Prop} {as : List Value} (c : callee (f.val env) (args.map (·.val env)) = some (g, as)) (e : Runs X κ g as h v h') (K : R (some v) (put env d v) h') : Ri X κ ⟨d, .call f args, none⟩ env h R := w_call (callee_runs c e) K
theorem zW {g : FuncId} {f : Opd} {args : List Opd} {d : Option Nat} {S : Value → Heap → Prop} {R : Option Value → Env → Heap → Prop} {as : List Value} (c : callee (f.val env) (args.map (·.val env)) = some (g, as)) (e : callR X κ g as h S) (K : ∀ v h', S v h' → R (some v) (put env d v) h') : Ri X κ ⟨d, .call f args, none⟩ env h R := by
  obtain ⟨v, h', r, q⟩ := e
  exact w_call (callee_runs c r) (K v h' q)
theorem zx {d : Option Nat} {o : AOp} {t : Nat} {w : Bool} {x : Value} {R : Option Value → Env → Heap → Prop} (hw : env t = x) (K : GV x w (Ri X κ ⟨d, o, none⟩ env h R) (R none (put env d undef) h)) : Ri X κ ⟨d, o, some (t, w)⟩ env h R := w_guardV hw K
theorem zy {c : Opd} {a b : ACode} {Q : AExit → Env → Heap → Prop} {t : Bool} (hc : c.val env = .bool t) (K : GV (.bool t) true (Ok X κ a env h Q) (Ok X κ b env h Q)) : Ok X κ (.cond c a b) env h Q := w_condV hc K
theorem zB {rs : List ARes} {h0 : Heap} {v : Value} {vs : List Value} (e : resOf env h rs = some vs) (K : KB (vBelow h0.size v) (tup vs = v)) : EndsQ rs .pure h0 v h0 .ret env h := w_endP e K.b K.k
theorem zC {rs : List ARes} {h0 : Heap} {v : Value} {vs : List Value} (e : resOf env h rs = some vs) (K : KB (vBelow h0.size v) (tup vs = v)) : EndsQ rs .pure h0 v h0 .normal env h := w_endPn e K.b K.k
theorem zD {rs : List ARes} {h0 : Heap} {R : Value → Heap → Prop} {vs : List Value} (e : resOf env h rs = some vs) (K : KC (vBelow h0.size (tup vs)) (R (tup vs) h0)) : EndsR rs .pure h0 R .ret env h := w_endPr e K.b K.k
theorem zE {rs : List ARes} {h0 : Heap} {vs : List Value} {R : Value → Heap → Prop} (e : resOf env h rs = some vs) (q : KK (R (tup vs) h)) : EndsR rs .plain h0 R .ret env h := w_endp e q.k
theorem zF {rs : List ARes} {h0 : Heap} {vs : List Value} {R : Value → Heap → Prop} (e : resOf env h rs = some vs) (q : KK (R (tup vs) h)) : EndsR rs .plain h0 R .normal env h := w_endpn e q.k
end Go.AM
end

section
namespace Go.AM
variable {h : Heap}
theorem grab_sub {cs l : List Value} {o n p m : Nat} (hg : grab cs o n = some l) (hp : p + m ≤ n) : grab cs (o + p) m = some ((l.drop p).take m) := by
  unfold grab at hg ⊢
  split at hg
  · rename_i hl
    cases hg
    rw [if_pos (by omega)]
    congr 1
    rw [List.drop_take, List.take_take, List.drop_drop, Nat.min_eq_left (by omega)]
  · cases hg
theorem grab_get {cs l : List Value} {o n p : Nat} (hg : grab cs o n = some l) (hp : p < n) : cs[o + p]? = l[p]? := by
  unfold grab at hg
  split at hg
  · cases hg
    rw [List.getElem?_take, if_pos hp, List.getElem?_drop]
  · cases hg
theorem grab_len {cs l : List Value} {o n : Nat} (hg : grab cs o n = some l) : l.length = n := by
  unfold grab at hg
  split at hg
  · cases hg; rw [List.length_take, List.length_drop]; omega
  · cases hg
@[simp] theorem cellsAt_set {y : AObj} {i b : Nat} : Heap.cellsAt (h.setIfInBounds i y) b = if i = b then (if i < h.size then cellsOfO y else none) else Heap.cellsAt h b := by
  unfold Heap.cellsAt
  rw [Array.getElem?_setIfInBounds]
  by_cases hi : i = b
  · rw [if_pos hi, if_pos hi]
    by_cases hb : i < h.size
    · rw [if_pos hb, if_pos hb]; cases y <;> rfl
    · rw [if_neg hb, if_neg hb]
  · rw [if_neg hi, if_neg hi]
structure Row (h : Heap) (e k : Nat) (v : Value) (n : Nat) (l : List Value) : Prop where
  ex : (v = .slice none 0 0 ∧ n = 0 ∧ l = []) ∨ ∃ b o c, v = .slice (some ⟨b, o, none⟩) n c ∧ n ≤ c ∧ b < h.size ∧ ((h[b]? = some .dead ∧ n = 0 ∧ l = []) ∨ ∃ cs, h[b]? = some (.cells cs e) ∧ grab cs o (n * k) = some l)
theorem Row.len {e k n : Nat} {v : Value} {l : List Value} (r : Row h e k v n l) : l.length = n * k := by
  rcases r.ex with ⟨_, rfl, rfl⟩ | ⟨b, o, c, _, _, _, ⟨_, rfl, rfl⟩ | ⟨cs, _, hg⟩⟩
  · simp
  · simp
  · exact grab_len hg
theorem Row.form {e k n : Nat} {v : Value} {l : List Value} (r : Row h e k v n l) : ∃ a c, v = .slice a n c := by
  rcases r.ex with ⟨rfl, rfl, rfl⟩ | ⟨b, o, c, rfl, _⟩ <;> exact ⟨_, _, rfl⟩
theorem Row.keep {e k n : Nat} {v : Value} {l : List Value} {h' : Heap} (r : Row h e k v n l) (hk : ∀ b, blk v = some b → h'[b]? = h[b]?) (hs : h.size ≤ h'.size) : Row h' e k v n l := by
  refine ⟨?_⟩
  rcases r.ex with q | ⟨b, o, c, rfl, hc, hb, q⟩
  · exact .inl q
  · have := hk b rfl
    rw [← this] at q
    exact .inr ⟨b, o, c, rfl, hc, by omega, q⟩
theorem Row.blt {e k n : Nat} {v : Value} {l : List Value} (r : Row h e k v n l) {b : Nat} (q : blk v = some b) : b < h.size := by
  rcases r.ex with ⟨rfl, rfl, rfl⟩ | ⟨b', o, c, rfl, _, hb, _⟩
  · cases q
  · cases q; exact hb
theorem Row.keepB {e k n : Nat} {v : Value} {l : List Value} {h' : Heap} (r : Row h e k v n l) {x : Option Nat} (hk : KeepB h h' x) (hx : x = none ∨ blk v ≠ x) : Row h' e k v n l := by
  refine r.keep (fun b q => hk.2 b (r.blt q) ?_) hk.1
  rcases hx with rfl | hx
  · intro q2; cases q2
  · rw [← q]; exact fun q2 => hx q2.symm
theorem KeepB.push {h0 h : Heap} {x : Option Nat} (k : KeepB h0 h x) (o : AObj) : KeepB h0 (h.push o) x := by
  refine ⟨by simp; have := k.1; omega, fun y hy hne => ?_⟩
  have := k.1
  rw [Array.getElem?_push, if_neg (by omega)]
  exact k.2 y hy hne
theorem KeepB.trans {h0 h1 h2 : Heap} {x : Option Nat} (k : KeepB h0 h1 x) (k2 : KeepB h1 h2 x) : KeepB h0 h2 x :=
  ⟨Nat.le_trans k.1 k2.1, fun y hy hne => by rw [k2.2 y (by have := k.1; omega) hne, k.2 y hy hne]⟩
theorem KeepB.set {h0 h : Heap} {x : Option Nat} (k : KeepB h0 h x) {b : Nat} (o : AObj) (hb : h0.size ≤ b ∨ x = some b) : KeepB h0 (h.setIfInBounds b o) x := by
  refine ⟨by simp; exact k.1, fun y hy hne => ?_⟩
  rw [Array.getElem?_setIfInBounds, if_neg, k.2 y hy hne]
  intro e; subst e
  rcases hb with q | q
  · omega
  · exact hne q
theorem Row.push {e k n : Nat} {v : Value} {l : List Value} (r : Row h e k v n l) (x : AObj) : Row (h.push x) e k v n l := r.keepB ((KeepB.refl h none).push x) (.inl rfl)
theorem Row.cell {e k n : Nat} {a : Option Addr} {c : Nat} {l : List Value} (r : Row h e k (.slice a n c) n l) (hn : 0 < n) : ∃ b o cs, a = some ⟨b, o, none⟩ ∧ b < h.size ∧ h.cellsAt b = some cs ∧ grab cs o (n * k) = some l := by
  rcases r.ex with ⟨q, rfl, _⟩ | ⟨b, o, c', q, _, hb, ⟨_, rfl, _⟩ | ⟨cs, hc, hg⟩⟩
  · omega
  · omega
  · cases q
    exact ⟨b, o, cs, rfl, hb, by unfold Heap.cellsAt; rw [hc], hg⟩
theorem Row.src {e k n : Nat} {v : Value} {l : List Value} (r : Row h e k v n l) : srcCells h k v = some (n, l) := by
  rcases r.ex with ⟨rfl, rfl, rfl⟩ | ⟨b, o, c, rfl, _, hb, ⟨_, rfl, rfl⟩ | ⟨cs, hc, hg⟩⟩
  · rfl
  · simp [srcCells]
  · unfold srcCells
    simp only [Option.isSome_none, Bool.false_eq_true, if_false]
    have := grab_len hg
    split
    · rename_i h0; have : l = [] := by apply List.eq_nil_of_length_eq_zero; omega
      rw [this]
    · simp only [Heap.cellsAt, hc, Option.bind_some, hg, Option.map_some]
def subV (k : Nat) (i j : Nat) : Value → Value
  | .slice none _ c => .slice none (j - i) (c - i)
  | .slice (some a) _ c => .slice (some (if c = i then a else a.add (i * k))) (j - i) (c - i)
  | v => v
theorem subV_blk {k i j : Nat} {a : Option Addr} {n c : Nat} : blk (subV k i j (.slice a n c)) = blk (.slice a n c) := by
  cases a with
  | none => rfl
  | some a =>
    simp only [subV, blk]
    split
    · rfl
    · unfold Addr.add; split <;> rfl
theorem Row.slice {e k n : Nat} {v : Value} {l : List Value} (r : Row h e k v n l) {i j : Nat} {lo hi : Option Value} (hlo : lo = none ∧ i = 0 ∨ lo = some (.int .i64 i)) (hhi : hi = none ∧ j = n ∨ hi = some (.int .i64 j)) (hij : i ≤ j) (hj : j ≤ n) :
    sliceV h e k v lo hi none = some (subV k i j v) ∧ Row h e k (subV k i j v) (j - i) ((l.drop (i * k)).take ((j - i) * k)) := by
  have b2 : ∀ c, n ≤ c → bound hi n c = some j := by
    intro c hc
    rcases hhi with ⟨rfl, rfl⟩ | rfl
    · rfl
    · simp only [bound]
      rw [if_pos (by omega)]; simp
  have b1 : bound lo 0 j = some i := by
    rcases hlo with ⟨rfl, rfl⟩ | rfl
    · rfl
    · simp only [bound]
      rw [if_pos (by omega)]; simp
  rcases r.ex with ⟨rfl, rfl, rfl⟩ | ⟨b, o, c, rfl, hc, hb, q⟩
  · have hj0 : j = 0 := by omega
    subst hj0
    have hi0 : i = 0 := by omega
    subst hi0
    refine ⟨?_, ⟨.inl ⟨rfl, rfl, by simp⟩⟩⟩
    unfold sliceV
    simp only [show bound none 0 0 = some 0 from rfl, Option.bind_some, b2 0 (Nat.le_refl _), b1]
    rfl
  · have hv : sliceV h e k (.slice (some ⟨b, o, none⟩) n c) lo hi none = some (.slice (some (if c = i then ⟨b, o, none⟩ else (⟨b, o, none⟩ : Addr).add (i * k))) (j - i) (c - i)) := by
      unfold sliceV
      simp only [show bound none c c = some c from rfl, Option.bind_some, b2 c hc, b1]
      rcases q with ⟨q1, _, _⟩ | ⟨cs, q1, _⟩
      · rw [q1]
      · rw [q1]; simp
    refine ⟨hv, ?_⟩
    simp only [subV]
    by_cases hci : c = i
    · rw [if_pos hci]
      have : j - i = 0 := by omega
      refine ⟨.inr ⟨b, o, c - i, rfl, by omega, hb, ?_⟩⟩
      rcases q with ⟨q1, q2, q3⟩ | ⟨cs, q1, q2⟩
      · exact .inl ⟨q1, by omega, by rw [q3]; simp⟩
      · refine .inr ⟨cs, q1, ?_⟩
        rw [this]
        unfold grab at q2 ⊢
        split at q2
        · rename_i hl
          rw [if_pos (by omega)]; simp
        · cases q2
    · rw [if_neg hci, addr_add]
      refine ⟨.inr ⟨b, o + i * k, c - i, rfl, by omega, hb, ?_⟩⟩
      rcases q with ⟨q1, q2, q3⟩ | ⟨cs, q1, q2⟩
      · exact .inl ⟨q1, by omega, by rw [q3]; simp⟩
      · refine .inr ⟨cs, q1, grab_sub q2 ?_⟩
        calc i * k + (j - i) * k = (i + (j - i)) * k := by rw [Nat.add_mul]
          _ ≤ n * k := Nat.mul_le_mul_right k (by omega)
def elems {α : Type} (enc : α → List Value) (xs : List α) : List Value := xs.flatMap enc
@[simp] theorem elems_nil {α : Type} {enc : α → List Value} : elems enc [] = [] := rfl
@[simp] theorem elems_cons {α : Type} {enc : α → List Value} {x : α} {xs : List α} : elems enc (x :: xs) = enc x ++ elems enc xs := rfl
@[simp] theorem elems_append {α : Type} {enc : α → List Value} {xs ys : List α} : elems enc (xs ++ ys) = elems enc xs ++ elems enc ys := by simp [elems]
theorem elems_len {α : Type} {enc : α → List Value} {k : Nat} (hk : ∀ x, (enc x).length = k) : ∀ xs : List α, (elems enc xs).length = xs.length * k
  | [] => by simp
  | x :: xs => by simp [elems_len hk xs, hk, Nat.add_mul]; omega
theorem elems_drop {α : Type} {enc : α → List Value} {k : Nat} (hk : ∀ x, (enc x).length = k) : ∀ (xs : List α) (i : Nat), (elems enc xs).drop (i * k) = elems enc (xs.drop i)
  | xs, 0 => by simp
  | [], i + 1 => by simp
  | x :: xs, i + 1 => by
    rw [elems_cons, List.drop_succ_cons, ← elems_drop hk xs i, Nat.add_mul, Nat.one_mul, Nat.add_comm, ← List.drop_drop, ← hk x, List.drop_left]
theorem elems_take {α : Type} {enc : α → List Value} {k : Nat} (hk : ∀ x, (enc x).length = k) : ∀ (xs : List α) (i : Nat), (elems enc xs).take (i * k) = elems enc (xs.take i)
  | xs, 0 => by simp
  | [], i + 1 => by simp
  | x :: xs, i + 1 => by
    rw [elems_cons, List.take_succ_cons, elems_cons, ← elems_take hk xs i, Nat.add_mul, Nat.one_mul, Nat.add_comm, ← hk x, List.take_length_add_append]
theorem Row.at {α : Type} {enc : α → List Value} {e k n i : Nat} {a : Option Addr} {c : Nat} {xs : List α} {x : α} (r : Row h e k (.slice a n c) n (elems enc xs)) (hk : ∀ x, (enc x).length = k) (hi : i < n) (hx : xs[i]? = some x) :
    ∃ b o cs, a = some ⟨b, o, none⟩ ∧ b < h.size ∧ h.cellsAt b = some cs ∧ grab cs (o + i * k) k = some (enc x) := by
  obtain ⟨b, o, cs, q1, q2, q3, q4⟩ := r.cell (by omega)
  refine ⟨b, o, cs, q1, q2, q3, ?_⟩
  rw [grab_sub q4 (by calc i * k + k = (i + 1) * k := by rw [Nat.add_mul, Nat.one_mul]
                        _ ≤ n * k := Nat.mul_le_mul_right k hi), elems_drop hk]
  congr 1
  have : xs.drop i = x :: xs.drop (i + 1) := by
    obtain ⟨hl, rfl⟩ := List.getElem?_eq_some_iff.1 hx
    exact (List.drop_eq_getElem_cons hl)
  rw [this, elems_cons, ← hk x, List.take_left]
theorem Row.all {α : Type} {enc : α → List Value} {e k n : Nat} {a : Option Addr} {c : Nat} {xs : List α} (r : Row h e k (.slice a n c) n (elems enc xs)) (hk : ∀ x, (enc x).length = k) (hn : 0 < n) :
    ∃ b o cs, a = some ⟨b, o, none⟩ ∧ b < h.size ∧ h.cellsAt b = some cs ∧ ∀ i x, xs[i]? = some x → i < n → grab cs (o + i * k) k = some (enc x) := by
  obtain ⟨b, o, cs, rfl, q2, q3, _⟩ := r.cell hn
  refine ⟨b, o, cs, rfl, q2, q3, fun i x hx hi => ?_⟩
  obtain ⟨b', o', cs', e1, _, e3, e4⟩ := r.at hk hi hx
  cases e1
  rw [q3] at e3; cases e3; exact e4
theorem Row.num {α : Type} {enc : α → List Value} {e k n : Nat} {v : Value} {xs : List α} (r : Row h e k v n (elems enc xs)) (hk : ∀ x, (enc x).length = k) (h0 : 0 < k) : xs.length = n := by
  have := r.len
  rw [elems_len hk] at this
  exact Nat.eq_of_mul_eq_mul_right h0 this
end Go.AM
namespace Go.AM
variable {h : Heap}
theorem Buf.row {f e k n : Nat} {v : Value} {l : List Value} (hb : Buf f h e k v l) (hk : 0 < k) (hn : n * k = l.length) : Row h e k v n l := by
  rcases hb with ⟨rfl, rfl⟩ | ⟨b, m, rfl, hm, hc, hf⟩
  · have : n = 0 := by
      rcases Nat.mul_eq_zero.1 (hn.trans rfl) with q | q
      · exact q
      · omega
    subst this
    exact ⟨.inl ⟨rfl, rfl, rfl⟩⟩
  · have : m = n := Nat.eq_of_mul_eq_mul_right hk (hm.trans hn.symm)
    subst this
    have hlt := (Array.getElem?_eq_some_iff.1 hc).1
    refine ⟨.inr ⟨b, 0, m, rfl, Nat.le_refl _, hlt, .inr ⟨l, hc, ?_⟩⟩⟩
    unfold grab
    rw [if_pos (by omega)]; simp [hm]
theorem Buf.weak {f f' e k : Nat} {v : Value} {l : List Value} (hb : Buf f h e k v l) (hf : f' ≤ f) : Buf f' h e k v l := by
  rcases hb with q | ⟨b, n, q1, q2, q3, q4⟩
  · exact .inl q
  · exact .inr ⟨b, n, q1, q2, q3, by omega⟩
theorem finish_buf {f e k n : Nat} {h0 : Heap} {v : Value} {l : List Value} (hb : Buf h0.size h e k v l) (hk : 0 < k) (hn : n * k = l.length) (hf : f ≤ h0.size) (hl : l.all (vBelow h0.size) = true) :
    ∃ v' h', finish .pure h0 h v = some (v', h') ∧ KeepB h0 h' none ∧ Buf f h' e k v' l ∧ Row h' e k v' n l := by
  rcases hb with ⟨rfl, rfl⟩ | ⟨b, m, rfl, hm, hc, hfb⟩
  · refine ⟨_, _, finish_pure rfl, .refl _ _, .inl ⟨rfl, rfl⟩, Buf.row (f := f) (.inl ⟨rfl, rfl⟩) hk hn⟩
  · have hbuf : Buf f (h0.push (.cells l e)) e k (.slice (some ⟨h0.size, 0, none⟩) m m) l := .inr ⟨h0.size, m, rfl, hm, by simp, hf⟩
    refine ⟨_, h0.push (.cells l e), ?_, (KeepB.refl _ _).push _, hbuf, hbuf.row hk hn⟩
    have hvb : vBelow h0.size (.slice (some ⟨b, 0, none⟩) m m) = false := by
      simp [vBelow, vb]; omega
    have hlt : decide (b < h0.size) = false := by simp; omega
    simp only [finish, outTop, hvb, Bool.false_eq_true, if_false, outAgg, outLeaf, Option.isSome_none, List.contains_nil, hlt, Bool.or_self, hc, Nat.zero_le, decide_true, List.drop_zero, hl, Bool.and_self, if_true, List.nil_append, List.length_nil, Nat.add_zero, Option.map_some, List.foldl_cons, List.foldl_nil]
theorem all_below_ints {n : Nat} {l : List Value} (hl : ∀ v ∈ l, ∃ k m, v = .int k m) : l.all (vBelow n) = true := by
  rw [List.all_eq_true]; intro v hv
  obtain ⟨k, m, rfl⟩ := hl v hv; rfl
end Go.AM
namespace Go.AM
theorem KeepB.cells {h h' : Heap} {y : Option Nat} (k : KeepB h h' y) {x : Nat} (hx : x < h.size) (hy : y ≠ some x) : h'.cellsAt x = h.cellsAt x := by
  unfold Heap.cellsAt; rw [k.2 x hx hy]
end Go.AM
namespace Go.AM
variable {h : Heap}
theorem finish_tup {f e k n : Nat} {h0 : Heap} {w : Value} {l : List Value} {as_ bs : List Value} (hb : Buf h0.size h e k w l) (hk : 0 < k) (hn : n * k = l.length) (hf : f ≤ h0.size) (hl : l.all (vBelow h0.size) = true)
    (ha : ∀ v ∈ as_, ∃ k m, v = .int k m) (hbs : ∀ v ∈ bs, ∃ k m, v = .int k m) :
    ∃ w' h', finish .pure h0 h (.tuple (as_ ++ w :: bs).toArray) = some (.tuple (as_ ++ w' :: bs).toArray, h') ∧ KeepB h0 h' none ∧ Buf f h' e k w' l ∧ Row h' e k w' n l := by
  have hints : ∀ (xs : List Value), (∀ v ∈ xs, ∃ k m, v = .int k m) → ∀ m, xs.all (vb m h0.size) = true ∨ m = 0 := by
    intro xs hx m
    cases m with
    | zero => exact .inr rfl
    | succ m => left; rw [List.all_eq_true]; intro v hv; obtain ⟨k, q, rfl⟩ := hx v hv; rfl
  have hout : ∀ (xs : List Value) (seen : List Nat) (new : List AObj), (∀ v ∈ xs, ∃ k m, v = .int k m) → outList (outAgg h0.size h) xs seen new = some (xs, seen, new) := by
    intro xs
    induction xs with
    | nil => intro _ _ _; rfl
    | cons x xs ih =>
      intro seen new hx
      obtain ⟨k, m, rfl⟩ := hx x (by simp)
      have : outAgg h0.size h seen new (.int k m) = some (.int k m, seen, new) := by simp [outAgg, vBelow, vb]
      rw [outList, this]
      simp only [ih seen new (fun v hv => hx v (by simp [hv]))]
  rcases hb with ⟨rfl, rfl⟩ | ⟨b, m, rfl, hm, hc, hfb⟩
  · refine ⟨_, _, finish_pure ?_, .refl _ _, .inl ⟨rfl, rfl⟩, Buf.row (f := f) (.inl ⟨rfl, rfl⟩) hk hn⟩
    simp only [vBelow, vb, List.all_append, List.all_cons]
    rcases hints as_ ha 5 with q | q
    · rcases hints bs hbs 5 with q2 | q2
      · simp [q, q2, vb]
      · omega
    · omega
  · have hbuf : Buf f (h0.push (.cells l e)) e k (.slice (some ⟨h0.size, 0, none⟩) m m) l := .inr ⟨h0.size, m, rfl, hm, by simp, hf⟩
    refine ⟨_, h0.push (.cells l e), ?_, (KeepB.refl _ _).push _, hbuf, hbuf.row hk hn⟩
    have hvb : vBelow h0.size (.slice (some ⟨b, 0, none⟩) m m) = false := by
      simp [vBelow, vb]; omega
    have hvt : vBelow h0.size (.tuple (as_ ++ (.slice (some ⟨b, 0, none⟩) m m) :: bs).toArray) = false := by
      simp only [vBelow, vb, List.all_append, List.all_cons]
      have : decide (b < h0.size) = false := by simp; omega
      rw [this]; simp
    have hlt : decide (b < h0.size) = false := by simp; omega
    have hmid : outAgg h0.size h [] [] (.slice (some ⟨b, 0, none⟩) m m) = some (.slice (some ⟨h0.size, 0, none⟩) m m, [b], [.cells l e]) := by
      simp only [hvb, Bool.false_eq_true, if_false, outAgg, outLeaf, Option.isSome_none, List.contains_nil, hlt, Bool.or_self, hc, Nat.zero_le, decide_true, List.drop_zero, hl, Bool.and_self, if_true, List.nil_append, List.length_nil, Nat.add_zero]
    have happ : ∀ (xs : List Value) , (∀ v ∈ xs, ∃ k m, v = .int k m) → outList (outAgg h0.size h) (xs ++ (.slice (some ⟨b, 0, none⟩) m m) :: bs) [] [] = some (xs ++ (.slice (some ⟨h0.size, 0, none⟩) m m) :: bs, [b], [.cells l e]) := by
      intro xs
      induction xs with
      | nil =>
        intro _
        simp only [List.nil_append, outList, hmid, hout bs _ _ hbs]
      | cons x xs ih =>
        intro hx
        obtain ⟨k, m, rfl⟩ := hx x (by simp)
        have : outAgg h0.size h [] [] (.int k m) = some (.int k m, [], []) := by simp [outAgg, vBelow, vb]
        rw [List.cons_append, outList, this]
        simp only [ih (fun v hv => hx v (by simp [hv])), List.cons_append]
    simp only [finish, outTop, hvt, Bool.false_eq_true, if_false, happ as_ ha, Option.map_some, List.foldl_cons, List.foldl_nil]
end Go.AM
namespace Go.AM
variable {h : Heap}
theorem Grow.set {f e k b n : Nat} {h0 : Heap} {v0 : Value} {l l' : List Value} (g : Grow f e k h0 h v0 (.slice (some ⟨b, 0, none⟩) n n) l) (hb : h0.size ≤ b ∨ Go.AM.blk v0 = some b) (hl : l'.length = l.length) (h1 : l'.all Go.AM.one = true) :
    Grow f e k h0 (h.setIfInBounds b (.cells l' e)) v0 (.slice (some ⟨b, 0, none⟩) n n) l' := by
  rcases g.buf with ⟨q, _⟩ | ⟨b', n', q1, q2, q3, q4⟩
  · cases q
  · cases q1
    have hlt := (Array.getElem?_eq_some_iff.1 q3).1
    refine ⟨.inr ⟨b, n, rfl, by omega, by rw [Array.getElem?_setIfInBounds, if_pos rfl, if_pos hlt], q4⟩, g.keep.set _ hb, g.blk, by simp; exact g.fs, h1⟩
theorem Buf.cell {f e k : Nat} {v : Value} {l : List Value} (hb : Buf f h e k v l) (hl : l ≠ []) : ∃ b n, v = .slice (some ⟨b, 0, none⟩) n n ∧ n * k = l.length ∧ h[b]? = some (.cells l e) ∧ h.cellsAt b = some l ∧ b < h.size ∧ f ≤ b := by
  rcases hb with ⟨_, q⟩ | ⟨b, n, q1, q2, q3, q4⟩
  · exact absurd q hl
  · exact ⟨b, n, q1, q2, q3, by unfold Heap.cellsAt; rw [q3], (Array.getElem?_eq_some_iff.1 q3).1, q4⟩
theorem putAt_app {a c : List Value} {p : Nat} {vs : List Value} : putAt (a ++ c) (a.length + p) vs = a ++ putAt c p vs := by
  unfold putAt
  rw [List.take_length_add_append, Nat.add_assoc, List.drop_length_add_append, List.append_assoc]
end Go.AM
end

section
namespace Go.AM
variable {P : Program} {h : Heap}
theorem arod_int {f : Nat} {t : TypeId} {cs : List Value} {d : Dat} {k : IntKind} (ht : P.underlying t = some (.int k)) (e : arod P h f t cs = some d) : ∃ n, cs = [.int k n] ∧ (Lit.int k n).wf = true := by
  cases f with
  | zero => simp [arod] at e
  | succ f =>
    unfold arod at e
    rw [ht] at e
    split at e <;> rename_i hd <;> try (cases hd; done)
    · cases hd
      split at e
      · rename_i q; obtain ⟨rfl, q⟩ := q; exact ⟨_, rfl, q⟩
      · cases e
    · cases e
theorem arod_bool {f : Nat} {t : TypeId} {cs : List Value} {d : Dat} (ht : P.underlying t = some .bool) (e : arod P h f t cs = some d) : ∃ b, cs = [.bool b] := by
  cases f with
  | zero => simp [arod] at e
  | succ f =>
    unfold arod at e
    rw [ht] at e
    split at e <;> rename_i hd <;> try (cases hd; done)
    · exact ⟨_, rfl⟩
    · cases e
theorem arod_string {f : Nat} {t : TypeId} {cs : List Value} {d : Dat} (ht : P.underlying t = some .string) (e : arod P h f t cs = some d) : ∃ s, cs = [.string s] ∧ s.size ≤ maxLen := by
  cases f with
  | zero => simp [arod] at e
  | succ f =>
    unfold arod at e
    rw [ht] at e
    split at e <;> rename_i hd <;> try (cases hd; done)
    · split at e
      · rename_i q; exact ⟨_, rfl, q⟩
      · cases e
    · cases e
theorem arod_struct {f : Nat} {t : TypeId} {cs : List Value} {d : Dat} {fs : Array Field} (ht : P.underlying t = some (.struct fs)) (e : arod P h f t cs = some d) : ∃ f' ds, arodF (arod P h f') P fs.toList cs = some ds := by
  cases f with
  | zero => simp [arod] at e
  | succ f =>
    simp only [arod, ht] at e
    obtain ⟨ds, h1, _⟩ := Option.map_eq_some_iff.1 e
    exact ⟨f, ds, h1⟩
theorem arodF_cons {g : TypeId → List Value → Option Dat} {x : Field} {xs : List Field} {cs : List Value} {ds : List Dat} (e : arodF g P (x :: xs) cs = some ds) : ∃ d ds', g x.type (cs.take (P.cellsOf x.type)) = some d ∧ arodF g P xs (cs.drop (P.cellsOf x.type)) = some ds' := by
  simp only [arodF] at e
  split at e
  · rename_i d ds' h1 h2; exact ⟨d, ds', h1, h2⟩
  · cases e
theorem arodF_nil {g : TypeId → List Value → Option Dat} {cs : List Value} {ds : List Dat} (e : arodF g P [] cs = some ds) : cs = [] := by
  cases cs with
  | nil => rfl
  | cons a l => simp [arodF] at e
theorem arod_slice {f : Nat} {t e : TypeId} {v : Value} {d : Dat} (ht : P.underlying t = some (.slice e)) (hk : 0 < P.cellsOf e) (q : arod P h f t [v] = some d) : ∃ n l f' ds, Row h e (P.cellsOf e) v n l ∧ n ≤ maxLen ∧ arodL (arod P h f' e) (P.cellsOf e) n l = some ds := by
  cases f with
  | zero => simp [arod] at q
  | succ f =>
    unfold arod at q
    rw [ht] at q
    split at q <;> rename_i hd hd2 <;> try (first | (cases hd; done) | (cases hd2; done) | (cases q; done))
    · cases hd2
      exact ⟨0, [], 0, [], ⟨.inl ⟨rfl, rfl, rfl⟩⟩, Nat.zero_le _, rfl⟩
    · cases hd; cases hd2
      split at q
      · rename_i hc
        obtain ⟨rfl, hm⟩ := hc
        split at q
        · rename_i l e' hb
          split at q
          · rename_i h2
            obtain ⟨rfl, hl⟩ := h2
            obtain ⟨ds, h3, _⟩ := Option.map_eq_some_iff.1 q
            refine ⟨_, l, f, ds, ⟨.inr ⟨_, 0, _, rfl, Nat.le_refl _, (Array.getElem?_eq_some_iff.1 hb).1, .inr ⟨l, hb, ?_⟩⟩⟩, hm, h3⟩
            unfold grab
            rw [if_pos (by omega)]; simp [← hl]
          · cases q
        · rename_i hb
          split at q
          · rename_i h2
            subst h2
            exact ⟨0, [], 0, [], ⟨.inr ⟨_, 0, _, rfl, Nat.le_refl _, (Array.getElem?_eq_some_iff.1 hb).1, .inl ⟨hb, rfl, rfl⟩⟩⟩, Nat.zero_le _, rfl⟩
          · cases q
        · cases q
      · cases q
theorem arodL_elems {α : Type} {enc : α → List Value} {good : α → Prop} {g : List Value → Option Dat} {k : Nat} (he : ∀ cs d, g cs = some d → cs.length = k → ∃ x, cs = enc x ∧ good x) : ∀ (n : Nat) (l : List Value) (ds : List Dat), arodL g k n l = some ds → l.length = n * k → ∃ xs : List α, xs.length = n ∧ l = elems enc xs ∧ ∀ x ∈ xs, good x
  | 0, l, ds, e, hl => ⟨[], rfl, by have : l = [] := List.eq_nil_of_length_eq_zero (by omega); rw [this]; rfl, by simp⟩
  | n + 1, l, ds, e, hl => by
    simp only [arodL] at e
    have hn : (n + 1) * k = n * k + k := by rw [Nat.add_mul, Nat.one_mul]
    split at e
    · rename_i d ds' h1 h2
      obtain ⟨x, hx, gx⟩ := he _ _ h1 (by rw [List.length_take]; omega)
      obtain ⟨xs, q1, q2, q3⟩ := arodL_elems he n _ _ h2 (by rw [List.length_drop]; omega)
      refine ⟨x :: xs, by simp [q1], ?_, ?_⟩
      · rw [elems_cons, ← hx, ← q2, List.take_append_drop]
      · intro y hy
        rcases List.mem_cons.1 hy with rfl | hy
        · exact gx
        · exact q3 y hy
    · cases e
theorem one_cells {v : Value} (h : isAgg v = false) : v.cells.toList = [v] := by cases v <;> first | rfl | cases h
end Go.AM
end

section
namespace Go.AM
theorem odt {p : Prop} [Decidable p] (h : p) : decide p = true := decide_eq_true h
theorem odf {p : Prop} [Decidable p] (h : ¬p) : decide p = false := decide_eq_false h
theorem oip {α : Type} {p : Prop} [Decidable p] {a b : α} (h : p) : (if p then a else b) = a := if_pos h
theorem oin {α : Type} {p : Prop} [Decidable p] {a b : α} (h : ¬p) : (if p then a else b) = b := if_neg h
theorem obt {a b : Int} (h : a = b) : (a == b) = true := by simp [h]
theorem obf {a b : Int} (h : ¬a = b) : (a == b) = false := by simp [h]
theorem ont {a b : Int} (h : ¬a = b) : (a != b) = true := by simp [bne, h]
theorem onf {a b : Int} (h : a = b) : (a != b) = false := by simp [bne, h]
theorem owu {n : Int} (h : 0 ≤ n ∧ n ≤ 18446744073709551615) : IntKind.u64.wrap n = n := by
  simp only [IntKind.wrap, IntKind.bits, IntKind.signed]; simp; omega
theorem ow8 {n : Int} (h : 0 ≤ n ∧ n ≤ 255) : IntKind.u8.wrap n = n := by
  simp only [IntKind.wrap, IntKind.bits, IntKind.signed]; simp; omega
theorem ow32 {n : Int} (h : -2147483648 ≤ n ∧ n ≤ 2147483647) : IntKind.i32.wrap n = n := by
  simp only [IntKind.wrap, IntKind.bits, IntKind.signed]; simp; omega
theorem otd {a b : Int} (h : 0 ≤ a) : a.tdiv b = a / b := Int.tdiv_eq_ediv_of_nonneg h
theorem oe0 {a0 : Value} {l : List Value} : env0 (a0 :: l) 0 = a0 := rfl
theorem oe1 {a0 a1 : Value} {l : List Value} : env0 (a0 :: a1 :: l) 1 = a1 := rfl
theorem oe2 {a0 a1 a2 : Value} {l : List Value} : env0 (a0 :: a1 :: a2 :: l) 2 = a2 := rfl
theorem oe3 {a0 a1 a2 a3 : Value} {l : List Value} : env0 (a0 :: a1 :: a2 :: a3 :: l) 3 = a3 := rfl
theorem oe4 {a0 a1 a2 a3 a4 : Value} {l : List Value} : env0 (a0 :: a1 :: a2 :: a3 :: a4 :: l) 4 = a4 := rfl
theorem oe5 {a0 a1 a2 a3 a4 a5 : Value} {l : List Value} : env0 (a0 :: a1 :: a2 :: a3 :: a4 :: a5 :: l) 5 = a5 := rfl
theorem oe6 {a0 a1 a2 a3 a4 a5 a6 : Value} {l : List Value} : env0 (a0 :: a1 :: a2 :: a3 :: a4 :: a5 :: a6 :: l) 6 = a6 := rfl
theorem otn {a b : Nat} : ((a : Int) + (b : Int)).toNat = a + b := by omega
theorem ot1 {a : Nat} : ((a : Int) + 1).toNat = a + 1 := by omega
theorem ot4 {a : Nat} : ((a : Int) + 4).toNat = a + 4 := by omega
theorem ot2 {a : Nat} : ((a : Int) + 2).toNat = a + 2 := by omega
theorem cutOk {X : Tab} {κ : Ctx} {c : ACode} {env : Env} {h : Heap} {Q : AExit → Env → Heap → Prop} (P : Env → Heap → Prop) (hp : P env h) (k : ∀ env h, P env h → Ok X κ c env h Q) : Ok X κ c env h Q := k _ _ hp
theorem cutRg {X : Tab} {κ : Ctx} {is : List AIns} {env : Env} {h : Heap} {R : Env → Heap → Prop} (P : Env → Heap → Prop) (hp : P env h) (k : ∀ env h, P env h → Rg X κ is env h R) : Rg X κ is env h R := k _ _ hp
theorem mergeRg {X : Tab} {κ : Ctx} {is : List AIns} {R : Env → Heap → Prop} {G : Prop} (P : Env → Heap → Prop) (g : (∀ env h, P env h → Rg X κ is env h R) → G) (k : ∀ env h, P env h → Rg X κ is env h R) : G := g k
theorem mergeOk {X : Tab} {κ : Ctx} {c : ACode} {Q : AExit → Env → Heap → Prop} {G : Prop} (P : Env → Heap → Prop) (g : (∀ env h, P env h → Ok X κ c env h Q) → G) (k : ∀ env h, P env h → Ok X κ c env h Q) : G := g k
theorem finish_own {h h0 : Heap} {b m c : Nat} {l : List Value} {e : TypeId} (hb : h0.size ≤ b) (hc : h[b]? = some (.cells l e)) (hl : l.all (vBelow h0.size) = true) :
    finish .pure h0 h (.slice (some ⟨b, 0, none⟩) m c) = some (.slice (some ⟨h0.size, 0, none⟩) m c, h0.push (.cells l e)) := by
  have hvb : vBelow h0.size (.slice (some ⟨b, 0, none⟩) m c) = false := by simp [vBelow, vb]; omega
  have hlt : decide (b < h0.size) = false := by simp; omega
  simp only [finish, outTop, hvb, Bool.false_eq_true, if_false, outAgg, outLeaf, Option.isSome_none, List.contains_nil, hlt, Bool.or_self, hc, Nat.zero_le, decide_true, List.drop_zero, hl, Bool.and_self, if_true, List.nil_append, List.length_nil, Nat.add_zero, Option.map_some, List.foldl_cons, List.foldl_nil]
theorem Buf.form {f : Nat} {h : Heap} {e : TypeId} {k : Nat} {v : Value} {l : List Value} (hb : Buf f h e k v l) : ∃ a n, v = .slice a n n := by
  rcases hb with ⟨rfl, _⟩ | ⟨b, n, rfl, _⟩ <;> exact ⟨_, _, rfl⟩
theorem Buf.keepB {f : Nat} {h h' : Heap} {e : TypeId} {k : Nat} {v : Value} {l : List Value} (hb : Buf f h e k v l) {x : Option Nat} (hk : KeepB h h' x) (hx : x = none ∨ blk v ≠ x) : Buf f h' e k v l := by
  rcases hb with q | ⟨b, n, rfl, q2, q3, q4⟩
  · exact .inl q
  · refine .inr ⟨b, n, rfl, q2, ?_, q4⟩
    rw [hk.2 b (Array.getElem?_eq_some_iff.1 q3).1]
    · exact q3
    · rcases hx with rfl | hx
      · simp
      · exact fun q => hx q.symm
theorem KeepB.trans' {h0 h1 h2 : Heap} {x : Option Nat} (k : KeepB h0 h1 none) (k2 : KeepB h1 h2 x) (hx : ∀ b, x = some b → h0.size ≤ b) : KeepB h0 h2 none := by
  refine ⟨Nat.le_trans k.1 k2.1, fun y hy _ => ?_⟩
  have h1 := k.1
  rw [k2.2 y (by omega) (fun q => by have := hx y q; omega), k.2 y hy (by simp)]
end Go.AM
end
