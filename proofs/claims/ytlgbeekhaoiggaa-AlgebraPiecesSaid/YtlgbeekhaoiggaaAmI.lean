import Derived.Test.YtlgbeekhaoiggaaAmG
set_option linter.all false
section
namespace Go.AM
/-! ### walks by one 'simp'
What is to come stands as a list of frames, into which 'simp' does not look: the last argument's type hangs on them. -/
inductive Frame where
  | seq (b : ACode)
  | blk (id : Nat)
  | inv (P : Env → Heap → Prop)
  | fin (Q : AExit → Env → Heap → Prop)
  | pend (rs : List ARes) (h0 : Heap) (R : Value → Heap → Prop)
  | lend (rs : List ARes) (R : Value → Heap → Prop)
  | chk (is : List AIns) (i : AIns) (j : Nat) (re : List Nat) (p : List (Nat × List Nat)) (sn : List (Nat × Env × Value)) (e0 : Env)
def snapF (i : AIns) (j : Nat) (e e' : Env) (p : List (Nat × List Nat)) (sn : List (Nat × Env × Value)) : List (Nat × Env × Value) :=
  if p.any (fun q => q.2.contains j) then (match i.dst with | some d => if wanted e i.guard then (j, e, e' d) :: sn else sn | none => sn) else sn
def kq (X : Tab) (κ : Ctx) : List Frame → AExit → Env → Heap → Prop
  | [] => fun _ _ _ => False
  | .seq b :: K => thenQ (fun e h => Ok X κ b e h (kq X κ K)) (kq X κ K)
  | .blk id :: K => blockQ id (kq X κ K)
  | .inv P :: K => thenQ P (kq X κ K)
  | .fin Q :: _ => Q
  | .pend rs h0 R :: _ => EndsR rs .pure h0 R
  | .lend rs R :: _ => fun ex e h => EndsR rs .plain h R ex e h
  | .chk is i j re p sn e0 :: K => thenQ (fun e' h' => sn.all (still is re h') = true ∧ RgD X κ is p (snapF i j e0 e' p sn) e' h' (fun e h => kq X κ K .normal e h)) (kq X κ K)
def lenV : Value → Option Value
  | .slice _ n _ => some (.int .i64 n)
  | _ => none
@[simp] theorem lenV_s {a : Option Addr} {n c : Nat} : lenV (.slice a n c) = some (.int .i64 n) := rfl
def idxV (k : Nat) : Value → Value → Option Value
  | .slice (some a) n _, .int _ j => if 0 ≤ j ∧ j < n then some (.pointer (some (a.add (j.toNat * k)))) else none
  | _, _ => none
@[simp] theorem idxV_s {k : Nat} {a : Addr} {n c : Nat} {q : IntKind} {j : Int} : idxV k (.slice (some a) n c) (.int q j) = if 0 ≤ j ∧ j < n then some (.pointer (some (a.add (j.toNat * k)))) else none := rfl
structure Ph {α : Type} (a : α) : Type where
variable {X : Tab} {κ : Ctx} {e : Env} {h : Heap} {K : List Frame}
def Run (X : Tab) (κ : Ctx) (c : ACode) (e : Env) (h : Heap) (K : List Frame) (p : Ph K) : Prop := Ok X κ c e h (kq X κ K)
def Ret (X : Tab) (κ : Ctx) (ex : AExit) (e : Env) (h : Heap) (K : List Frame) (p : Ph K) : Prop := kq X κ K ex e h
def RIs (X : Tab) (κ : Ctx) (is : List AIns) (e : Env) (h : Heap) (K : List Frame) (p : Ph (is, K)) : Prop := Rg X κ is e h (fun e h => kq X κ K .normal e h)
def RB (X : Tab) (κ : Ctx) (o : Option Value) (d : Option Nat) (is : List AIns) (e : Env) (h : Heap) (K : List Frame) (p : Ph (is, K)) : Prop := ∃ v, o = some v ∧ RIs X κ is (put e d v) h K p
def RN (X : Tab) (κ : Ctx) (o : Option (AObj × (Nat → Value))) (d : Option Nat) (is : List AIns) (e : Env) (h : Heap) (K : List Frame) (p : Ph (is, K)) : Prop := ∃ x, o = some x ∧ RIs X κ is (put e d (x.2 h.size)) (h.push x.1) K p
def RM (X : Tab) (κ : Ctx) (o : Option (Value × Heap)) (d : Option Nat) (is : List AIns) (e : Env) (K : List Frame) (p : Ph (is, K)) : Prop := ∃ x, o = some x ∧ RIs X κ is (put e d x.1) x.2 K p
def RCall (X : Tab) (κ : Ctx) (f : Value) (args : List Value) (d : Option Nat) (is : List AIns) (e : Env) (h : Heap) (K : List Frame) (p : Ph (is, K)) : Prop := ∃ v h', RunsV X κ f args h v h' ∧ RIs X κ is (put e d v) h' K p
def RF (X : Tab) (κ : Ctx) (g : FuncId) (args : List Value) (d : Option Nat) (is : List AIns) (e : Env) (h : Heap) (K : List Frame) (p : Ph (is, K)) : Prop := ∃ v h', Runs X κ g args h v h' ∧ RIs X κ is (put e d v) h' K p
def RInv (X : Tab) (κ : Ctx) (r : Value) (name : String) (args : List Value) (d : Option Nat) (is : List AIns) (e : Env) (h : Heap) (K : List Frame) (p : Ph (is, K)) : Prop := ∃ t v g, r = .iface t v ∧ X.meth t name = some g ∧ RF X κ g (v :: args) d is e h K p
def RC (X : Tab) (κ : Ctx) (v : Value) (a b : ACode) (e : Env) (h : Heap) (K : List Frame) (p : Ph (a, b, K)) : Prop := ∃ t, v = .bool t ∧ if t = true then Run X κ a e h K ⟨⟩ else Run X κ b e h K ⟨⟩
def RG (X : Tab) (κ : Ctx) (v : Value) (w : Bool) (d : Option Nat) (o : AOp) (is : List AIns) (e : Env) (h : Heap) (K : List Frame) (p : Ph (o, is, K)) : Prop := (v = .bool w → RIs X κ (⟨d, o, none⟩ :: is) e h K ⟨⟩) ∧ (v ≠ .bool w → RIs X κ is (put e d undef) h K ⟨⟩)
def RDs (X : Tab) (κ : Ctx) (is : List AIns) (p : List (Nat × List Nat)) (sn : List (Nat × Env × Value)) (e : Env) (h : Heap) (K : List Frame) (q : Ph (is, p, K)) : Prop := RgD X κ is p sn e h (fun e h => kq X κ K .normal e h)
def RE (o : Option (List Value)) (h : Heap) (R : Value → Heap → Prop) (p : Ph R) : Prop := ∃ vs, o = some vs ∧ R (tup vs) h
def RP (o : Option (List Value)) (h0 h : Heap) (R : Value → Heap → Prop) (p : Ph R) : Prop := ∃ vs v h', o = some vs ∧ finish .pure h0 h (tup vs) = some (v, h') ∧ R v h'
theorem run_of {c : ACode} {Q : AExit → Env → Heap → Prop} (a : Run X κ c e h [.fin Q] ⟨⟩) : Ok X κ c e h Q := a
section
variable {p : Ph K}
@[simp] theorem Run_skip : Run X κ .skip e h K p ↔ Ret X κ .normal e h K ⟨⟩ := Ok_skip
@[simp] theorem Run_ret : Run X κ .ret e h K p ↔ Ret X κ .ret e h K ⟨⟩ := Ok_ret
@[simp] theorem Run_exit {i : Nat} : Run X κ (.exit i) e h K p ↔ Ret X κ (.exit i) e h K ⟨⟩ := Ok_exit
@[simp] theorem Run_reg {is : List AIns} : Run X κ (.reg is) e h K p ↔ RIs X κ is e h K ⟨⟩ := Ok_reg
@[simp] theorem Run_seq {a b : ACode} : Run X κ (.seq a b) e h K p ↔ Run X κ a e h (.seq b :: K) ⟨⟩ := Ok_seq
@[simp] theorem Run_blk {i : Nat} {a : ACode} : Run X κ (.block i a) e h K p ↔ Run X κ a e h (.blk i :: K) ⟨⟩ := Ok_block
@[simp] theorem Run_cond {c : Opd} {a b : ACode} : Run X κ (.cond c a b) e h K p ↔ RC X κ (c.val e) a b e h K ⟨⟩ := Ok_cond
def plainP (is : List AIns) (p : List (Nat × List Nat)) : Bool := p.all (fun q => q.2.isEmpty && decide (q.1 < is.length))
theorem RgD_iff {is : List AIns} : ∀ {p : List (Nat × List Nat)} {snap : List (Nat × Env × Value)} {env : Env} {h : Heap} {R : Env → Heap → Prop}, plainP is p = true →
    (RgD X κ is p snap env h R ↔ Rg X κ (p.filterMap fun q => is[q.1]?) env h R)
  | [], snap, env, h, R, hp => by rw [RgD_nil]; exact Rg_nil.symm
  | (j, re) :: p, snap, env, h, R, hp => by
    unfold plainP at hp
    simp only [List.all_cons, Bool.and_eq_true, decide_eq_true_eq, List.isEmpty_iff] at hp
    obtain ⟨⟨rfl, hj⟩, hp⟩ := hp
    have hi : is[j]? = some is[j] := List.getElem?_eq_getElem hj
    rw [List.filterMap_cons, hi, RgD_cons hi, Rg_cons]
    constructor
    · rintro ⟨n, v, e1, h1, hv, _, K2⟩; exact ⟨n, v, e1, h1, hv, (RgD_iff hp).1 K2⟩
    · rintro ⟨n, v, e1, h1, hv, K2⟩; exact ⟨n, v, e1, h1, hv, still_nils, (RgD_iff hp).2 K2⟩
def pickP (is : List AIns) (p : List (Nat × List Nat)) : List AIns := p.filterMap fun q => is[q.1]?
theorem Run_regD {is : List AIns} {p' : List (Nat × List Nat)} (hp : plainP is p' = true) : Run X κ (.regD is p') e h K p ↔ RIs X κ (pickP is p') e h K ⟨⟩ := by
  unfold Run RIs; rw [Ok_regD, RgD_iff hp]; rfl
theorem RgD_drop {is : List AIns} {j : Nat} {e0 : Env} {v : Value} : ∀ {p : List (Nat × List Nat)} {a sn : List (Nat × Env × Value)} {env : Env} {h : Heap} {R : Env → Heap → Prop}, (∀ q ∈ p, q.2.contains j = false) →
    (RgD X κ is p (a ++ (j, e0, v) :: sn) env h R ↔ RgD X κ is p (a ++ sn) env h R)
  | [], a, sn, env, h, R, hp => by rw [RgD_nil, RgD_nil]
  | (k, re) :: p, a, sn, env, h, R, hp => by
    have hj : re.contains j = false := hp (k, re) (by simp)
    have hs : ∀ h', (a ++ (j, e0, v) :: sn).all (still is re h') = (a ++ sn).all (still is re h') := fun h' => by
      have : still is re h' (j, e0, v) = true := by unfold still; simp only [hj]; rfl
      simp only [List.all_append, List.all_cons, this, Bool.true_and]
    cases hi : is[k]? with
    | none =>
      constructor <;> (rintro ⟨n, e', h', ev, _⟩; simp only [aRegD, hi] at ev; cases ev)
    | some i =>
      rw [RgD_cons hi, RgD_cons hi]
      have ih : ∀ v' e' h', RgD X κ is p (snapped k env v' (a ++ (j, e0, v) :: sn)) e' h' R ↔ RgD X κ is p (snapped k env v' (a ++ sn)) e' h' R := fun v' e' h' => by
        cases v' with
        | none => exact RgD_drop fun q hq => hp q (by simp [hq])
        | some w => exact RgD_drop (a := (k, env, w) :: a) fun q hq => hp q (by simp [hq])
      constructor <;> (rintro ⟨n, v', e', h', ev, q1, q2⟩; exact ⟨n, v', e', h', ev, by first | rw [hs] at q1; exact q1 | rw [hs]; exact q1, by first | exact (ih _ _ _).1 q2 | exact (ih _ _ _).2 q2⟩)
theorem RgD_step {is : List AIns} {i : AIns} {j : Nat} {re : List Nat} {p : List (Nat × List Nat)} {sn : List (Nat × Env × Value)} {R : Env → Heap → Prop} (hi : is[j]? = some i) (hd : p.any (fun q => q.2.contains j) = true → i.dst.isSome = true) :
    RgD X κ is ((j, re) :: p) sn e h R ↔ Rg X κ [i] e h (fun e' h' => sn.all (still is re h') = true ∧ RgD X κ is p (snapF i j e e' p sn) e' h' R) := by
  rw [RgD_cons hi, Rg_cons]
  have key : ∀ n v e' h', aIns (callV X n κ) X.meth κ i e h = some (v, e', h') → (RgD X κ is p (snapped j e v sn) e' h' R ↔ RgD X κ is p (snapF i j e e' p sn) e' h' R) := by
    intro n v e' h' ev
    unfold snapF
    by_cases hn : p.any (fun q => q.2.contains j) = true
    · rw [if_pos hn]
      obtain ⟨d, hdd⟩ := Option.isSome_iff_exists.1 (hd hn)
      unfold aIns at ev
      rw [hdd] at ev ⊢
      dsimp only
      split at ev
      · rename_i hw
        rw [if_pos hw]
        split at ev
        · cases ev; rw [put_some, upd_same]; rfl
        · cases ev
      · rename_i hw
        rw [if_neg hw]; cases ev; rfl
    · rw [if_neg hn]
      cases v with
      | none => rfl
      | some w =>
        refine RgD_drop (a := []) fun q hq => ?_
        cases hc : q.2.contains j with
        | false => rfl
        | true => exact absurd (List.any_eq_true.2 ⟨q, hq, hc⟩) hn
  constructor
  · rintro ⟨n, v, e', h', ev, q1, q2⟩; exact ⟨n, v, e', h', ev, Rg_nil.2 ⟨q1, (key _ _ _ _ ev).1 q2⟩⟩
  · rintro ⟨n, v, e', h', ev, q⟩
    obtain ⟨q1, q2⟩ := Rg_nil.1 q
    exact ⟨n, v, e', h', ev, q1, (key _ _ _ _ ev).2 q2⟩
theorem RDs_nil {is : List AIns} {sn : List (Nat × Env × Value)} {q : Ph (is, ([] : List (Nat × List Nat)), K)} : RDs X κ is [] sn e h K q ↔ Ret X κ .normal e h K ⟨⟩ := RgD_nil
theorem Run_regDs {is : List AIns} {p' : List (Nat × List Nat)} : Run X κ (.regD is p') e h K p ↔ RDs X κ is p' [] e h K ⟨⟩ := Ok_regD
def RDo (X : Tab) (κ : Ctx) (o : Option AIns) (is : List AIns) (j : Nat) (re : List Nat) (p' : List (Nat × List Nat)) (sn : List (Nat × Env × Value)) (e : Env) (h : Heap) (K : List Frame) (q : Ph (is, re, p', K)) : Prop := RDs X κ is ((j, re) :: p') sn e h K ⟨⟩
@[simp] theorem RDs_c {is : List AIns} {j : Nat} {re : List Nat} {p' : List (Nat × List Nat)} {sn : List (Nat × Env × Value)} {q : Ph (is, (j, re) :: p', K)} : RDs X κ is ((j, re) :: p') sn e h K q ↔ RDo X κ is[j]? is j re p' sn e h K ⟨⟩ := Iff.rfl
@[simp] theorem RDo_s {is : List AIns} {i : AIns} {j : Nat} {re : List Nat} {p' : List (Nat × List Nat)} {sn : List (Nat × Env × Value)} {q : Ph (is, re, p', K)} (hi : is[j]? = some i) (hd : (!p'.any (fun q => q.2.contains j) || i.dst.isSome) = true) :
    RDo X κ (some i) is j re p' sn e h K q ↔ RIs X κ [i] e h (.chk is i j re p' sn e :: K) ⟨⟩ := by
  refine RgD_step hi fun hn => ?_
  rw [hn] at hd
  simpa using hd
@[simp] theorem Ret_chk {is : List AIns} {i : AIns} {j : Nat} {re : List Nat} {p' : List (Nat × List Nat)} {sn : List (Nat × Env × Value)} {e0 : Env} {p : Ph (.chk is i j re p' sn e0 :: K)} :
    Ret X κ .normal e h (.chk is i j re p' sn e0 :: K) p ↔ sn.all (still is re h) = true ∧ RDs X κ is p' (snapF i j e0 e p' sn) e h K ⟨⟩ := Iff.rfl
theorem still_nil {is : List AIns} {h : Heap} {s : Nat × Env × Value} : still is [] h s = true := by simp [still]
attribute [simp] RDs_nil Run_regDs still_nil
attribute [simp] snapF
@[simp] theorem Ret_seq {b : ACode} {p : Ph (.seq b :: K)} : Ret X κ .normal e h (.seq b :: K) p ↔ Run X κ b e h K ⟨⟩ := Iff.rfl
@[simp] theorem Ret_seq_e {i : Nat} {b : ACode} {p : Ph (.seq b :: K)} : Ret X κ (.exit i) e h (.seq b :: K) p ↔ Ret X κ (.exit i) e h K ⟨⟩ := Iff.rfl
@[simp] theorem Ret_seq_r {b : ACode} {p : Ph (.seq b :: K)} : Ret X κ .ret e h (.seq b :: K) p ↔ Ret X κ .ret e h K ⟨⟩ := Iff.rfl
@[simp] theorem Ret_blk {i : Nat} {p : Ph (.blk i :: K)} : Ret X κ .normal e h (.blk i :: K) p ↔ Ret X κ .normal e h K ⟨⟩ := Iff.rfl
@[simp] theorem Ret_blk_r {i : Nat} {p : Ph (.blk i :: K)} : Ret X κ .ret e h (.blk i :: K) p ↔ Ret X κ .ret e h K ⟨⟩ := Iff.rfl
theorem Ret_blk_e {i j : Nat} {p : Ph (.blk j :: K)} : Ret X κ (.exit i) e h (.blk j :: K) p ↔ (if i = j then Ret X κ .normal e h K ⟨⟩ else Ret X κ (.exit i) e h K ⟨⟩) := blockQ_exit (Q := kq X κ K) ▸ Iff.rfl
@[simp] theorem Ret_blk_s {i : Nat} {p : Ph (.blk i :: K)} : Ret X κ (.exit i) e h (.blk i :: K) p ↔ Ret X κ .normal e h K ⟨⟩ := by rw [Ret_blk_e, if_pos rfl]
@[simp] theorem Ret_blk_n {i j : Nat} {p : Ph (.blk j :: K)} (hij : i ≠ j) : Ret X κ (.exit i) e h (.blk j :: K) p ↔ Ret X κ (.exit i) e h K ⟨⟩ := by rw [Ret_blk_e, if_neg hij]
@[simp] theorem Ret_inv {P : Env → Heap → Prop} {p : Ph (.inv P :: K)} : Ret X κ .normal e h (.inv P :: K) p ↔ P e h := Iff.rfl
@[simp] theorem Ret_inv_e {i : Nat} {P : Env → Heap → Prop} {p : Ph (.inv P :: K)} : Ret X κ (.exit i) e h (.inv P :: K) p ↔ Ret X κ (.exit i) e h K ⟨⟩ := Iff.rfl
@[simp] theorem Ret_inv_r {P : Env → Heap → Prop} {p : Ph (.inv P :: K)} : Ret X κ .ret e h (.inv P :: K) p ↔ Ret X κ .ret e h K ⟨⟩ := Iff.rfl
@[simp] theorem Ret_fin {ex : AExit} {Q : AExit → Env → Heap → Prop} {p : Ph (.fin Q :: K)} : Ret X κ ex e h (.fin Q :: K) p ↔ Q ex e h := Iff.rfl
@[simp] theorem Ret_lend {rs : List ARes} {R : Value → Heap → Prop} {p : Ph (.lend rs R :: K)} : Ret X κ .ret e h (.lend rs R :: K) p ↔ RE (resOf e h rs) h R ⟨⟩ :=
  ⟨fun ⟨vs, v, h', a, b, c⟩ => by cases b; exact ⟨vs, a, c⟩, fun ⟨vs, a, c⟩ => ⟨vs, _, _, a, rfl, c⟩⟩
@[simp] theorem Ret_lendn {rs : List ARes} {R : Value → Heap → Prop} {p : Ph (.lend rs R :: K)} : Ret X κ .normal e h (.lend rs R :: K) p ↔ RE (resOf e h rs) h R ⟨⟩ :=
  ⟨fun ⟨vs, v, h', a, b, c⟩ => by cases b; exact ⟨vs, a, c⟩, fun ⟨vs, a, c⟩ => ⟨vs, _, _, a, rfl, c⟩⟩
@[simp] theorem Ret_pend {rs : List ARes} {h0 : Heap} {R : Value → Heap → Prop} {p : Ph (.pend rs h0 R :: K)} : Ret X κ .ret e h (.pend rs h0 R :: K) p ↔ RP (resOf e h rs) h0 h R ⟨⟩ := Iff.rfl
@[simp] theorem Ret_pendn {rs : List ARes} {h0 : Heap} {R : Value → Heap → Prop} {p : Ph (.pend rs h0 R :: K)} : Ret X κ .normal e h (.pend rs h0 R :: K) p ↔ RP (resOf e h rs) h0 h R ⟨⟩ := Iff.rfl
@[simp] theorem RE_some {vs : List Value} {R : Value → Heap → Prop} {p : Ph R} : RE (some vs) h R p ↔ R (tup vs) h :=
  ⟨fun ⟨_, a, b⟩ => by cases a; exact b, fun b => ⟨_, rfl, b⟩⟩
theorem RP_low {vs : List Value} {h0 : Heap} {R : Value → Heap → Prop} {p : Ph R} (hv : vBelow h0.size (tup vs) = true) : RP (some vs) h0 h R p ↔ R (tup vs) h0 :=
  ⟨fun ⟨_, v, h', a, b, c⟩ => by cases a; rw [finish_pure hv] at b; cases b; exact c, fun b => ⟨_, _, _, rfl, finish_pure hv, b⟩⟩
theorem RP_fin {vs : List Value} {h0 : Heap} {R : Value → Heap → Prop} {p : Ph R} {v : Value} {h' : Heap} (hv : finish .pure h0 h (tup vs) = some (v, h')) : RP (some vs) h0 h R p ↔ R v h' :=
  ⟨fun ⟨_, v, h', a, b, c⟩ => by cases a; rw [hv] at b; cases b; exact c, fun b => ⟨_, _, _, rfl, hv, b⟩⟩
def low1 (n : Nat) : Value → Bool
  | .bool _ | .int _ _ | .string _ | .nilFunc | .nilIface | .pointer none | .slice none _ _ | .map none => true
  | .pointer (some a) => decide (a.block < n) && a.spot.isNone
  | .slice (some a) _ _ => decide (a.block < n) && a.spot.isNone
  | .map (some r) => decide (r < n)
  | .iface _ (.pointer (some a)) => decide (a.block < n) && a.spot.isNone
  | .func (.func _) a b => a.size == 0 && b.size == 0
  | _ => false
def low2 (n : Nat) : Value → Bool
  | .agg cs => cs.toList.all (low1 n)
  | v => low1 n v
theorem vb_low1 {d n : Nat} {v : Value} (hv : low1 n v = true) : vb (d + 2) n v = true := by
  unfold low1 at hv
  split at hv
  all_goals first | rfl | (simp only [Bool.and_eq_true, beq_iff_eq] at hv; simp [vb, Array.eq_empty_of_size_eq_zero hv.1, Array.eq_empty_of_size_eq_zero hv.2]; done) | (simpa [vb] using hv) | (exact absurd hv (by simp))
theorem vb_low2 {d n : Nat} {v : Value} (hv : low2 n v = true) : vb (d + 3) n v = true := by
  unfold low2 at hv
  split at hv
  · simp only [vb, List.all_eq_true] at hv ⊢; exact fun x hx => vb_low1 (hv x hx)
  · exact vb_low1 hv
theorem low_low {n : Nat} {vs : List Value} (hv : vs.all (low2 n) = true) : vBelow n (tup vs) = true := by
  rw [List.all_eq_true] at hv
  match vs, hv with
  | [], _ => rfl
  | [v], hv => exact vb_low2 (hv v (by simp))
  | v :: w :: l, hv => show vb 6 n (.tuple _) = true; simp only [vb, List.all_eq_true]; exact fun x hx => vb_low2 (hv x hx)
@[simp] theorem low1_b {n : Nat} {b : Bool} : low1 n (.bool b) = true := rfl
@[simp] theorem low1_i {n : Nat} {k : IntKind} {m : Int} : low1 n (.int k m) = true := rfl
@[simp] theorem low1_s {n : Nat} {b : ByteArray} : low1 n (.string b) = true := rfl
@[simp] theorem low1_nf {n : Nat} : low1 n .nilFunc = true := rfl
@[simp] theorem low1_ni {n : Nat} : low1 n .nilIface = true := rfl
@[simp] theorem low1_pn {n : Nat} : low1 n (.pointer none) = true := rfl
@[simp] theorem low1_sn {n a b : Nat} : low1 n (.slice none a b) = true := rfl
@[simp] theorem low1_p {n b o : Nat} : low1 n (.pointer (some ⟨b, o, none⟩)) = decide (b < n) := by simp [low1]
@[simp] theorem low1_sl {n b o l c : Nat} : low1 n (.slice (some ⟨b, o, none⟩) l c) = decide (b < n) := by simp [low1]
@[simp] theorem low1_if {n b o : Nat} {t : TypeId} : low1 n (.iface t (.pointer (some ⟨b, o, none⟩))) = decide (b < n) := by simp [low1]
@[simp] theorem low1_fn {n : Nat} {f : FuncId} : low1 n (.func (.func f) #[] #[]) = true := rfl
@[simp] theorem low2_agg {n : Nat} {a : Array Value} : low2 n (.agg a) = a.toList.all (low1 n) := rfl
@[simp] theorem low2_b {n : Nat} {b : Bool} : low2 n (.bool b) = true := rfl
@[simp] theorem low2_i {n : Nat} {k : IntKind} {m : Int} : low2 n (.int k m) = true := rfl
@[simp] theorem low2_s {n : Nat} {b : ByteArray} : low2 n (.string b) = true := rfl
@[simp] theorem low2_nf {n : Nat} : low2 n .nilFunc = true := rfl
@[simp] theorem low2_ni {n : Nat} : low2 n .nilIface = true := rfl
@[simp] theorem low2_pn {n : Nat} : low2 n (.pointer none) = true := rfl
@[simp] theorem low2_sn {n a b : Nat} : low2 n (.slice none a b) = true := rfl
@[simp] theorem low2_p {n b o : Nat} : low2 n (.pointer (some ⟨b, o, none⟩)) = decide (b < n) := by simp [low2, low1]
@[simp] theorem low2_sl {n b o l c : Nat} : low2 n (.slice (some ⟨b, o, none⟩) l c) = decide (b < n) := by simp [low2, low1]
@[simp] theorem low2_if {n b o : Nat} {t : TypeId} : low2 n (.iface t (.pointer (some ⟨b, o, none⟩))) = decide (b < n) := by simp [low2, low1]
@[simp] theorem low2_fn {n : Nat} {f : FuncId} : low2 n (.func (.func f) #[] #[]) = true := rfl
def RQ (b : Bool) (vs : List Value) (h0 h : Heap) (R : Value → Heap → Prop) (p : Ph (vs, R)) : Prop := if b = true then R (tup vs) h0 else RP (some vs) h0 h R ⟨⟩
@[simp] theorem RP_some {vs : List Value} {h0 : Heap} {R : Value → Heap → Prop} {p : Ph R} : RP (some vs) h0 h R p ↔ RQ (vs.all (low2 h0.size)) vs h0 h R ⟨⟩ := by
  unfold RQ
  split
  · rename_i hv; exact RP_low (low_low hv)
  · exact Iff.rfl
@[simp] theorem RQ_tt {vs : List Value} {h0 : Heap} {R : Value → Heap → Prop} {p : Ph (vs, R)} : RQ true vs h0 h R p ↔ R (tup vs) h0 := by simp [RQ]
theorem RQ_fin {b : Bool} {vs : List Value} {h0 : Heap} {R : Value → Heap → Prop} {p : Ph (vs, R)} {v : Value} {h' : Heap} (hv : finish .pure h0 h (tup vs) = some (v, h')) (hb : b = vs.all (low2 h0.size)) : RQ b vs h0 h R p ↔ R v h' := by
  rw [hb, ← RP_some (p := ⟨⟩)]; exact RP_fin hv
theorem RQ_ff {vs : List Value} {h0 : Heap} {R : Value → Heap → Prop} {p : Ph (vs, R)} {v : Value} {h' : Heap} (hv : finish .pure h0 h (tup vs) = some (v, h')) : RQ false vs h0 h R p ↔ R v h' := by
  simp only [RQ, Bool.false_eq_true, if_false]; exact RP_fin hv
end
section
variable {is : List AIns} {d : Option Nat}
@[simp] theorem RIs_nil {p : Ph (([] : List AIns), K)} : RIs X κ [] e h K p ↔ Ret X κ .normal e h K ⟨⟩ := Rg_nil
theorem RIs_cons {o : AOp} {p : Ph ((⟨d, o, none⟩ : AIns) :: is, K)} : RIs X κ (⟨d, o, none⟩ :: is) e h K p ↔ Ro X κ o e h (fun v h' => RIs X κ is (put e d v) h' K ⟨⟩) := Rg_cons.trans Ri_plain
@[simp] theorem RIs_guard {o : AOp} {t : Nat} {w : Bool} {p : Ph ((⟨d, o, some (t, w)⟩ : AIns) :: is, K)} : RIs X κ (⟨d, o, some (t, w)⟩ :: is) e h K p ↔ RG X κ (e t) w d o is e h K ⟨⟩ := by
  refine Rg_cons.trans (Ri_guard.trans ?_)
  unfold RG
  by_cases hw : e t = .bool w
  · rw [if_pos (by simp [wanted, hw])]
    exact ⟨fun q => ⟨fun _ => RIs_cons.2 q, fun n => absurd hw n⟩, fun q => RIs_cons.1 (q.1 hw)⟩
  · rw [if_neg (by simp only [wanted]; split <;> rename_i hb <;> simp_all)]
    exact ⟨fun q => ⟨fun n => absurd n hw, fun _ => q⟩, fun q => q.2 hw⟩
@[simp] theorem RG_tt {o : AOp} {p : Ph (o, is, K)} : RG X κ (.bool true) true d o is e h K p ↔ RIs X κ (⟨d, o, none⟩ :: is) e h K ⟨⟩ := by simp [RG]
@[simp] theorem RG_ff {o : AOp} {p : Ph (o, is, K)} : RG X κ (.bool false) false d o is e h K p ↔ RIs X κ (⟨d, o, none⟩ :: is) e h K ⟨⟩ := by simp [RG]
@[simp] theorem RG_tf {o : AOp} {p : Ph (o, is, K)} : RG X κ (.bool true) false d o is e h K p ↔ RIs X κ is (put e d undef) h K ⟨⟩ := by simp [RG]
@[simp] theorem RG_ft {o : AOp} {p : Ph (o, is, K)} : RG X κ (.bool false) true d o is e h K p ↔ RIs X κ is (put e d undef) h K ⟨⟩ := by simp [RG]
@[simp] theorem RG_u {o : AOp} {w : Bool} {p : Ph (o, is, K)} : RG X κ undef w d o is e h K p ↔ RIs X κ is (put e d undef) h K ⟨⟩ := by simp [RG, undef]
@[simp low] theorem RG_t {o : AOp} {t : Bool} {p : Ph (o, is, K)} : RG X κ (.bool t) true d o is e h K p ↔ (t = true → RIs X κ (⟨d, o, none⟩ :: is) e h K ⟨⟩) ∧ (t = false → RIs X κ is (put e d undef) h K ⟨⟩) := by cases t <;> simp [RG]
@[simp low] theorem RG_f {o : AOp} {t : Bool} {p : Ph (o, is, K)} : RG X κ (.bool t) false d o is e h K p ↔ (t = false → RIs X κ (⟨d, o, none⟩ :: is) e h K ⟨⟩) ∧ (t = true → RIs X κ is (put e d undef) h K ⟨⟩) := by cases t <;> simp [RG]
@[simp] theorem RC_tt {a b : ACode} {p : Ph (a, b, K)} : RC X κ (.bool true) a b e h K p ↔ Run X κ a e h K ⟨⟩ := by simp [RC]
@[simp] theorem RC_ff {a b : ACode} {p : Ph (a, b, K)} : RC X κ (.bool false) a b e h K p ↔ Run X κ b e h K ⟨⟩ := by simp [RC]
@[simp low] theorem RC_t {a b : ACode} {t : Bool} {p : Ph (a, b, K)} : RC X κ (.bool t) a b e h K p ↔ (t = true → Run X κ a e h K ⟨⟩) ∧ (t = false → Run X κ b e h K ⟨⟩) := by cases t <;> simp [RC]
section
variable {p : Ph (is, K)}
@[simp] theorem RB_s {v : Value} : RB X κ (some v) d is e h K p ↔ RIs X κ is (put e d v) h K ⟨⟩ := ⟨fun ⟨_, a, b⟩ => by cases a; exact b, fun b => ⟨_, rfl, b⟩⟩
@[simp] theorem RB_n : RB X κ none d is e h K p ↔ False := ⟨fun ⟨_, a, _⟩ => (by cases a), False.elim⟩
@[simp] theorem RN_s {x : AObj} {f : Nat → Value} : RN X κ (some (x, f)) d is e h K p ↔ RIs X κ is (put e d (f h.size)) (h.push x) K ⟨⟩ := ⟨fun ⟨_, a, b⟩ => by cases a; exact b, fun b => ⟨_, rfl, b⟩⟩
@[simp] theorem RM_s {v : Value} {h' : Heap} : RM X κ (some (v, h')) d is e K p ↔ RIs X κ is (put e d v) h' K ⟨⟩ := ⟨fun ⟨_, a, b⟩ => by cases a; exact b, fun b => ⟨_, rfl, b⟩⟩
@[simp] theorem RCall_f {g : FuncId} {first cap : Array Value} {args : List Value} : RCall X κ (.func (.func g) first cap) args d is e h K p ↔ RF X κ g (first.toList ++ args ++ cap.toList) d is e h K ⟨⟩ := by
  simp only [RCall, RF, RunsV_func]
theorem RF_of {g : FuncId} {as : List Value} {v : Value} {h' : Heap} (a : Runs X κ g as h v h') : RF X κ g as d is e h K p ↔ RIs X κ is (put e d v) h' K ⟨⟩ :=
  ⟨fun ⟨v', h'', b, q⟩ => by obtain ⟨rfl, rfl⟩ := a.det b; exact q, fun q => ⟨v, h', a, q⟩⟩
theorem RF_by {g : FuncId} {as : List Value} {R : Value → Heap → Prop} (a : callR X κ g as h R) (k : ∀ v h', R v h' → RIs X κ is (put e d v) h' K ⟨⟩) : RF X κ g as d is e h K p := by
  obtain ⟨v, h', r, q⟩ := a; exact ⟨v, h', r, k v h' q⟩
theorem RInv_of {t : TypeId} {v : Value} {name : String} {g : FuncId} {args : List Value} (hm : X.meth t name = some g) : RInv X κ (.iface t v) name args d is e h K p ↔ RF X κ g (v :: args) d is e h K ⟨⟩ :=
  ⟨fun ⟨_, _, _, a, b, c⟩ => by cases a; rw [hm] at b; cases b; exact c, fun c => ⟨_, _, _, rfl, hm, c⟩⟩
end
section
variable {o : AOp} {p : Ph ((⟨d, o, none⟩ : AIns) :: is, K)}
theorem RIs_v (hd : pureOp o = true) : RIs X κ (⟨d, o, none⟩ :: is) e h K p ↔ RB X κ (aVal e h o) d is e h K ⟨⟩ := by
  refine RIs_cons.trans (Ro_val ?_)
  cases o <;> first | rfl | cases hd
theorem RIs_n (hd : newOp o = true) : RIs X κ (⟨d, o, none⟩ :: is) e h K p ↔ RN X κ (aNew e o) d is e h K ⟨⟩ := by
  refine RIs_cons.trans ⟨fun ⟨n, v, h', ev, q⟩ => ?_, fun ⟨⟨x, f⟩, ev, q⟩ => ⟨0, _, _, ?_, q⟩⟩
  · have : aPure e h o = some (v, h') := by cases o <;> first | exact ev | cases hd
    unfold aPure at this
    split at this
    · rename_i x mk hx; cases this; exact ⟨_, hx, q⟩
    · rename_i hx; exfalso; cases o <;> first | (cases hd; done) | (simp [aVal] at this)
  · have : aPure e h o = some (f h.size, h.push x) := by unfold aPure; rw [ev]
    cases o <;> first | exact this | cases hd
theorem RIs_m (hd : memOp o = true) : RIs X κ (⟨d, o, none⟩ :: is) e h K p ↔ RM X κ (aMem κ e h o) d is e K ⟨⟩ := by
  refine RIs_cons.trans ⟨fun ⟨n, v, h', ev, q⟩ => ⟨(v, h'), ?_, q⟩, fun ⟨⟨v, h'⟩, ev, q⟩ => ⟨0, _, _, ?_, q⟩⟩
  · cases o <;> first | exact ev | cases hd
  · cases o <;> first | exact ev | cases hd
end
@[simp] theorem I_mov {x : Opd} {p : Ph ((⟨d, .mov x, none⟩ : AIns) :: is, K)} : RIs X κ (⟨d, .mov x, none⟩ :: is) e h K p ↔ RIs X κ is (put e d (x.val e)) h K ⟨⟩ := RIs_cons.trans Ro_mov
@[simp] theorem I_load1 {a : Opd} {p : Ph ((⟨d, .load1 a, none⟩ : AIns) :: is, K)} : RIs X κ (⟨d, .load1 a, none⟩ :: is) e h K p ↔ RB X κ (rd1 h (a.val e)) d is e h K ⟨⟩ := RIs_v rfl
@[simp] theorem I_loadN {n : Nat} {a : Opd} {p : Ph ((⟨d, .loadN n a, none⟩ : AIns) :: is, K)} : RIs X κ (⟨d, .loadN n a, none⟩ :: is) e h K p ↔ RB X κ (rdN h n (a.val e)) d is e h K ⟨⟩ := RIs_v rfl
@[simp] theorem I_bin {op : BinOp} {x : Opd} {y : Opd} {p : Ph ((⟨d, .bin op x y, none⟩ : AIns) :: is, K)} : RIs X κ (⟨d, .bin op x y, none⟩ :: is) e h K p ↔ RB X κ (binV op (x.val e) (y.val e)) d is e h K ⟨⟩ := RIs_v rfl
@[simp] theorem I_un {op : UnOp} {x : Opd} {p : Ph ((⟨d, .un op x, none⟩ : AIns) :: is, K)} : RIs X κ (⟨d, .un op x, none⟩ :: is) e h K p ↔ RB X κ (unV op (x.val e)) d is e h K ⟨⟩ := RIs_v rfl
@[simp] theorem I_slice {t : TypeId} {k : Nat} {x : Opd} {lo : Option Opd} {hi : Option Opd} {mx : Option Opd} {p : Ph ((⟨d, .slice t k x lo hi mx, none⟩ : AIns) :: is, K)} : RIs X κ (⟨d, .slice t k x lo hi mx, none⟩ :: is) e h K p ↔ RB X κ (sliceV h t k (x.val e) (lo.map (·.val e)) (hi.map (·.val e)) (mx.map (·.val e))) d is e h K ⟨⟩ := RIs_v rfl
@[simp] theorem I_pick {c : Opd} {a : Opd} {b : Opd} {p : Ph ((⟨d, .pick c a b, none⟩ : AIns) :: is, K)} : RIs X κ (⟨d, .pick c a b, none⟩ :: is) e h K p ↔ RB X κ (aVal e h (.pick c a b)) d is e h K ⟨⟩ := RIs_v rfl
@[simp] theorem I_build {z : List Value} {ps : List (Nat × Nat × Opd)} {p : Ph ((⟨d, .build z ps, none⟩ : AIns) :: is, K)} : RIs X κ (⟨d, .build z ps, none⟩ :: is) e h K p ↔ RB X κ (aVal e h (.build z ps)) d is e h K ⟨⟩ := RIs_v rfl
@[simp] theorem I_nilCheck {x : Opd} {p : Ph ((⟨d, .nilCheck x, none⟩ : AIns) :: is, K)} : RIs X κ (⟨d, .nilCheck x, none⟩ :: is) e h K p ↔ RB X κ (aVal e h (.nilCheck x)) d is e h K ⟨⟩ := RIs_v rfl
@[simp] theorem I_eqv {n : Bool} {ks : List EqK} {g : Bool} {x : Opd} {y : Opd} {p : Ph ((⟨d, .eqv n ks g x y, none⟩ : AIns) :: is, K)} : RIs X κ (⟨d, .eqv n ks g x y, none⟩ :: is) e h K p ↔ RB X κ (aVal e h (.eqv n ks g x y)) d is e h K ⟨⟩ := RIs_v rfl
@[simp] theorem I_convInt {k : IntKind} {x : Opd} {p : Ph ((⟨d, .convInt k x, none⟩ : AIns) :: is, K)} : RIs X κ (⟨d, .convInt k x, none⟩ :: is) e h K p ↔ RB X κ (aVal e h (.convInt k x)) d is e h K ⟨⟩ := RIs_v rfl
@[simp] theorem I_bytesStr {x : Opd} {p : Ph ((⟨d, .bytesStr x, none⟩ : AIns) :: is, K)} : RIs X κ (⟨d, .bytesStr x, none⟩ :: is) e h K p ↔ RB X κ (aVal e h (.bytesStr x)) d is e h K ⟨⟩ := RIs_v rfl
@[simp] theorem I_mkIface {t : TypeId} {x : Opd} {p : Ph ((⟨d, .mkIface t x, none⟩ : AIns) :: is, K)} : RIs X κ (⟨d, .mkIface t x, none⟩ :: is) e h K p ↔ RB X κ (aVal e h (.mkIface t x)) d is e h K ⟨⟩ := RIs_v rfl
@[simp] theorem I_mkFunc {f : Fn} {a : List Opd} {b : List Opd} {p : Ph ((⟨d, .mkFunc f a b, none⟩ : AIns) :: is, K)} : RIs X κ (⟨d, .mkFunc f a b, none⟩ :: is) e h K p ↔ RB X κ (aVal e h (.mkFunc f a b)) d is e h K ⟨⟩ := RIs_v rfl
@[simp] theorem I_sliceStr {x : Opd} {lo : Option Opd} {hi : Option Opd} {p : Ph ((⟨d, .sliceStr x lo hi, none⟩ : AIns) :: is, K)} : RIs X κ (⟨d, .sliceStr x lo hi, none⟩ :: is) e h K p ↔ RB X κ (aVal e h (.sliceStr x lo hi)) d is e h K ⟨⟩ := RIs_v rfl
@[simp] theorem I_addOff {n : Nat} {x : Opd} {p : Ph ((⟨d, .addOff n x, none⟩ : AIns) :: is, K)} : RIs X κ (⟨d, .addOff n x, none⟩ :: is) e h K p ↔ RB X κ (aVal e h (.addOff n x)) d is e h K ⟨⟩ := RIs_v rfl
@[simp] theorem I_field1 {n : Nat} {x : Opd} {p : Ph ((⟨d, .field1 n x, none⟩ : AIns) :: is, K)} : RIs X κ (⟨d, .field1 n x, none⟩ :: is) e h K p ↔ RB X κ (aVal e h (.field1 n x)) d is e h K ⟨⟩ := RIs_v rfl
@[simp] theorem I_fieldN {o : Nat} {n : Nat} {x : Opd} {p : Ph ((⟨d, .fieldN o n x, none⟩ : AIns) :: is, K)} : RIs X κ (⟨d, .fieldN o n x, none⟩ :: is) e h K p ↔ RB X κ (aVal e h (.fieldN o n x)) d is e h K ⟨⟩ := RIs_v rfl
@[simp] theorem I_idxA {k : Nat} {x : Opd} {i : Opd} {p : Ph ((⟨d, .idxA k x i, none⟩ : AIns) :: is, K)} : RIs X κ (⟨d, .idxA k x i, none⟩ :: is) e h K p ↔ RB X κ (idxV k (x.val e) (i.val e)) d is e h K ⟨⟩ := RIs_v rfl
@[simp] theorem I_idxArr {n : Nat} {k : Nat} {x : Opd} {i : Opd} {p : Ph ((⟨d, .idxArr n k x i, none⟩ : AIns) :: is, K)} : RIs X κ (⟨d, .idxArr n k x i, none⟩ :: is) e h K p ↔ RB X κ (aVal e h (.idxArr n k x i)) d is e h K ⟨⟩ := RIs_v rfl
@[simp] theorem I_ixStr {x : Opd} {i : Opd} {p : Ph ((⟨d, .ixStr x i, none⟩ : AIns) :: is, K)} : RIs X κ (⟨d, .ixStr x i, none⟩ :: is) e h K p ↔ RB X κ (aVal e h (.ixStr x i)) d is e h K ⟨⟩ := RIs_v rfl
@[simp] theorem I_ixAgg {n : Nat} {k : Nat} {g : Bool} {x : Opd} {i : Opd} {p : Ph ((⟨d, .ixAgg n k g x i, none⟩ : AIns) :: is, K)} : RIs X κ (⟨d, .ixAgg n k g x i, none⟩ :: is) e h K p ↔ RB X κ (aVal e h (.ixAgg n k g x i)) d is e h K ⟨⟩ := RIs_v rfl
@[simp] theorem I_extract {x : Opd} {n : Nat} {p : Ph ((⟨d, .extract x n, none⟩ : AIns) :: is, K)} : RIs X κ (⟨d, .extract x n, none⟩ :: is) e h K p ↔ RB X κ (aVal e h (.extract x n)) d is e h K ⟨⟩ := RIs_v rfl
@[simp] theorem I_len {x : Opd} {p : Ph ((⟨d, .len x, none⟩ : AIns) :: is, K)} : RIs X κ (⟨d, .len x, none⟩ :: is) e h K p ↔ RB X κ (lenV (x.val e)) d is e h K ⟨⟩ := RIs_v rfl
@[simp] theorem I_lenStr {x : Opd} {p : Ph ((⟨d, .lenStr x, none⟩ : AIns) :: is, K)} : RIs X κ (⟨d, .lenStr x, none⟩ :: is) e h K p ↔ RB X κ (aVal e h (.lenStr x)) d is e h K ⟨⟩ := RIs_v rfl
@[simp] theorem I_lenC {n : Nat} {p : Ph ((⟨d, .lenC n, none⟩ : AIns) :: is, K)} : RIs X κ (⟨d, .lenC n, none⟩ :: is) e h K p ↔ RB X κ (aVal e h (.lenC n)) d is e h K ⟨⟩ := RIs_v rfl
@[simp] theorem I_tyAssert {t : TypeId} {ok : Bool} {z : Value} {x : Opd} {p : Ph ((⟨d, .tyAssert t ok z x, none⟩ : AIns) :: is, K)} : RIs X κ (⟨d, .tyAssert t ok z x, none⟩ :: is) e h K p ↔ RB X κ (aVal e h (.tyAssert t ok z x)) d is e h K ⟨⟩ := RIs_v rfl
@[simp] theorem I_maxI {x : Opd} {y : Opd} {p : Ph ((⟨d, .maxI x y, none⟩ : AIns) :: is, K)} : RIs X κ (⟨d, .maxI x y, none⟩ :: is) e h K p ↔ RB X κ (aVal e h (.maxI x y)) d is e h K ⟨⟩ := RIs_v rfl
@[simp] theorem I_minI {x : Opd} {y : Opd} {p : Ph ((⟨d, .minI x y, none⟩ : AIns) :: is, K)} : RIs X κ (⟨d, .minI x y, none⟩ :: is) e h K p ↔ RB X κ (aVal e h (.minI x y)) d is e h K ⟨⟩ := RIs_v rfl
@[simp] theorem I_lookup {ok : Bool} {z : Value} {m : Opd} {k : Opd} {p : Ph ((⟨d, .lookup ok z m k, none⟩ : AIns) :: is, K)} : RIs X κ (⟨d, .lookup ok z m k, none⟩ :: is) e h K p ↔ RB X κ (aVal e h (.lookup ok z m k)) d is e h K ⟨⟩ := RIs_v rfl
@[simp] theorem I_box {t : TypeId} {x : Opd} {p : Ph ((⟨d, .box t x, none⟩ : AIns) :: is, K)} : RIs X κ (⟨d, .box t x, none⟩ :: is) e h K p ↔ RN X κ (aNew e (.box t x)) d is e h K ⟨⟩ := RIs_n rfl
@[simp] theorem I_alloc {t : TypeId} {z : List Value} {p : Ph ((⟨d, .alloc t z, none⟩ : AIns) :: is, K)} : RIs X κ (⟨d, .alloc t z, none⟩ :: is) e h K p ↔ RN X κ (aNew e (.alloc t z)) d is e h K ⟨⟩ := RIs_n rfl
@[simp] theorem I_buildSlice {t : TypeId} {n : Nat} {z : List Value} {ps : List (Nat × Nat × Opd)} {p : Ph ((⟨d, .buildSlice t n z ps, none⟩ : AIns) :: is, K)} : RIs X κ (⟨d, .buildSlice t n z ps, none⟩ :: is) e h K p ↔ RN X κ (aNew e (.buildSlice t n z ps)) d is e h K ⟨⟩ := RIs_n rfl
@[simp] theorem I_makeSlice {t : TypeId} {b : Nat} {z : List Value} {n : Opd} {c : Opd} {p : Ph ((⟨d, .makeSlice t b z n c, none⟩ : AIns) :: is, K)} : RIs X κ (⟨d, .makeSlice t b z n c, none⟩ :: is) e h K p ↔ RN X κ (aNew e (.makeSlice t b z n c)) d is e h K ⟨⟩ := RIs_n rfl
@[simp] theorem I_rangeS {x : Opd} {p : Ph ((⟨d, .rangeS x, none⟩ : AIns) :: is, K)} : RIs X κ (⟨d, .rangeS x, none⟩ :: is) e h K p ↔ RN X κ (aNew e (.rangeS x)) d is e h K ⟨⟩ := RIs_n rfl
@[simp] theorem I_makeMap {p : Ph ((⟨d, .makeMap, none⟩ : AIns) :: is, K)} : RIs X κ (⟨d, .makeMap, none⟩ :: is) e h K p ↔ RN X κ (aNew e .makeMap) d is e h K ⟨⟩ := RIs_n rfl
@[simp] theorem I_store {n : Nat} {a : Opd} {x : Opd} {p : Ph ((⟨d, .store n a x, none⟩ : AIns) :: is, K)} : RIs X κ (⟨d, .store n a x, none⟩ :: is) e h K p ↔ RM X κ (aMem κ e h (.store n a x)) d is e K ⟨⟩ := RIs_m rfl
@[simp] theorem I_append {t : TypeId} {k : Nat} {b : Nat} {s : Opd} {x : Opd} {p : Ph ((⟨d, .append t k b s x, none⟩ : AIns) :: is, K)} : RIs X κ (⟨d, .append t k b s x, none⟩ :: is) e h K p ↔ RM X κ (aAppend κ h t k b (s.val e) (x.val e)) d is e K ⟨⟩ := RIs_m rfl
@[simp] theorem I_copy {k : Nat} {u : Opd} {x : Opd} {p : Ph ((⟨d, .copy k u x, none⟩ : AIns) :: is, K)} : RIs X κ (⟨d, .copy k u x, none⟩ :: is) e h K p ↔ RM X κ (aCopy κ h k (u.val e) (x.val e)) d is e K ⟨⟩ := RIs_m rfl
@[simp] theorem I_nextS {x : Opd} {p : Ph ((⟨d, .nextS x, none⟩ : AIns) :: is, K)} : RIs X κ (⟨d, .nextS x, none⟩ :: is) e h K p ↔ RM X κ (aNext κ h (x.val e)) d is e K ⟨⟩ := RIs_m rfl
@[simp] theorem I_clear {k : Nat} {z : List Value} {s : Opd} {p : Ph ((⟨d, .clear k z s, none⟩ : AIns) :: is, K)} : RIs X κ (⟨d, .clear k z s, none⟩ :: is) e h K p ↔ RM X κ (aClear κ h z (s.val e)) d is e K ⟨⟩ := RIs_m rfl
@[simp] theorem I_insert {m : Opd} {k : Opd} {x : Opd} {p : Ph ((⟨d, .insert m k x, none⟩ : AIns) :: is, K)} : RIs X κ (⟨d, .insert m k x, none⟩ :: is) e h K p ↔ RM X κ (aInsert κ h (m.val e) (k.val e) (x.val e)) d is e K ⟨⟩ := RIs_m rfl
@[simp] theorem I_call {f : Opd} {args : List Opd} {p : Ph ((⟨d, .call f args, none⟩ : AIns) :: is, K)} : RIs X κ (⟨d, .call f args, none⟩ :: is) e h K p ↔ RCall X κ (f.val e) (args.map (·.val e)) d is e h K ⟨⟩ := RIs_cons.trans Ro_call
theorem Ro_inv {r : Opd} {name : String} {args : List Opd} {R : Value → Heap → Prop} : Ro X κ (.invoke r name args) e h R ↔ ∃ t v g, r.val e = .iface t v ∧ X.meth t name = some g ∧ ∃ w h', Runs X κ g (v :: args.map (·.val e)) h w h' ∧ R w h' := by
  constructor
  · rintro ⟨n, w, h', ev, q⟩
    simp only [aOp] at ev
    split at ev
    · rename_i t v hv
      split at ev
      · rename_i g hg
        refine ⟨t, v, g, hv, hg, w, h', ?_, q⟩
        have := (RunsV_func (X := X) (κ := κ) (h := h) (g := g) (first := #[]) (cap := #[]) (args := v :: args.map (·.val e)) (v := w) (h' := h')).1 ⟨n, ev⟩
        simpa using this
      · cases ev
    · cases ev
  · rintro ⟨t, v, g, hv, hg, w, h', r1, q⟩
    have : RunsV X κ (.func (.func g) #[] #[]) (v :: args.map (·.val e)) h w h' := RunsV_func.2 (by simpa using r1)
    obtain ⟨n, en⟩ := this
    exact ⟨n, w, h', by simp only [aOp, hv, hg]; exact en, q⟩
@[simp] theorem I_invoke {r : Opd} {name : String} {args : List Opd} {p : Ph ((⟨d, .invoke r name args, none⟩ : AIns) :: is, K)} : RIs X κ (⟨d, .invoke r name args, none⟩ :: is) e h K p ↔ RInv X κ (r.val e) name (args.map (·.val e)) d is e h K ⟨⟩ := RIs_cons.trans Ro_inv
end
theorem runs_R {g : FuncId} {nt : Nat} {body : ACode} {rs : List ARes} {as : List Value} {v : Value} {h' : Heap} {f : Nat} (he : X.ext g = none) (hf : X.fn g = some ⟨nt, body, rs, .pure⟩)
    (hb : Run X ⟨h.size, []⟩ body (env0 as) h [.pend rs h (fun w h1 => w = v ∧ h1 = h')] ⟨⟩) : Runs X ⟨f, []⟩ g as h v h' :=
  callR.toRuns (callR_of he hf (R := fun w h1 => w = v ∧ h1 = h') hb)
theorem callP {g : FuncId} {nt : Nat} {body : ACode} {rs : List ARes} {as : List Value} {R : Value → Heap → Prop} {f : Nat} (he : X.ext g = none) (hf : X.fn g = some ⟨nt, body, rs, .pure⟩)
    (hb : Run X ⟨h.size, []⟩ body (env0 as) h [.pend rs h R] ⟨⟩) : callR X ⟨f, []⟩ g as h R := callR_of he hf hb
theorem callL {g : FuncId} {nt : Nat} {body : ACode} {rs : List ARes} {as : List Value} {R : Value → Heap → Prop} (he : X.ext g = none) (hf : X.fn g = some ⟨nt, body, rs, .plain⟩)
    (hb : Run X κ body (env0 as) h [.lend rs R] ⟨⟩) : callR X κ g as h R := callR_of he hf hb
theorem runs_L {g : FuncId} {nt : Nat} {body : ACode} {rs : List ARes} {as : List Value} {v : Value} {h' : Heap} (he : X.ext g = none) (hf : X.fn g = some ⟨nt, body, rs, .plain⟩)
    (hb : Run X κ body (env0 as) h [.lend rs (fun w h1 => w = v ∧ h1 = h')] ⟨⟩) : Runs X κ g as h v h' :=
  callR.toRuns (callR_of he hf (R := fun w h1 => w = v ∧ h1 = h') hb)
theorem Run_loop {A : Type} {c : ACode} (I : A → Env → Heap → Prop) (μ : A → Nat) {a0 : A} (h0 : I a0 e h) {p : Ph K}
    (step : ∀ a e h, I a e h → Run X κ c e h (.inv (fun e h => ∃ a', I a' e h ∧ μ a' < μ a) :: K) ⟨⟩) : Run X κ (.loop c) e h K p := w_loop I μ h0 step
theorem Run_unroll {c : ACode} {p : Ph K} : Run X κ (.loop c) e h K p ↔ Run X κ c e h (.seq (.loop c) :: K) ⟨⟩ := Ok_loop
theorem otm1 {a : Nat} : ((a : Int) - 1).toNat = a - 1 := by omega
attribute [simp] otm1
@[simp] theorem tup_cons {a b : Value} {l : List Value} : tup (a :: b :: l) = .tuple (a :: b :: l).toArray := rfl
@[simp high] theorem lg0 {α : Type} {a : α} {l : List α} : (a :: l)[0]? = some a := rfl
@[simp high] theorem lgs {α : Type} {a : α} {l : List α} {i : Nat} : (a :: l)[i + 1]? = l[i]? := rfl
attribute [simp] wrapI owu ow8 ow32 odt odf oip oin obt obf ont onf bound otn ot1 ot2 ot4
end Go.AM
end

section
namespace Go.AM
def wIs (is : List AIns) : List Nat := is.filterMap (·.dst)
def wC : ACode → List Nat
  | .reg is => wIs is
  | .regD is _ => wIs is
  | .seq a b => wC a ++ wC b
  | .cond _ a b => wC a ++ wC b
  | .block _ a => wC a
  | .loop a => wC a
  | _ => []
variable {X : Tab} {κ : Ctx}
theorem put_keep {e : Env} {d : Option Nat} {v : Value} {t : Nat} (hd : d ≠ some t) : put e d v t = e t := by
  cases d with
  | none => rfl
  | some x => exact upd_ne (fun q => hd (by rw [q]))
theorem aIns_env {c : CallT} {m : TypeId → String → Option FuncId} {i : AIns} {e e' : Env} {h h' : Heap} {v : Option Value} (ev : aIns c m κ i e h = some (v, e', h')) {t : Nat} (ht : i.dst ≠ some t) : e' t = e t := by
  unfold aIns at ev
  split at ev
  · split at ev
    · cases ev; exact put_keep ht
    · cases ev
  · cases ev; exact put_keep ht
theorem wIs_mem {is : List AIns} {i : AIns} (hi : i ∈ is) {t : Nat} (ht : t ∉ wIs is) : i.dst ≠ some t :=
  fun q => ht (List.mem_filterMap.2 ⟨i, hi, q⟩)
theorem aReg_env {c : CallT} {m : TypeId → String → Option FuncId} : ∀ {is : List AIns} {e e' : Env} {h h' : Heap}, aReg c m κ is e h = some (e', h') → ∀ {t : Nat}, (∀ i ∈ is, i.dst ≠ some t) → e' t = e t
  | [], e, e', h, h', ev, t, _ => by cases ev; rfl
  | i :: is, e, e', h, h', ev, t, ht => by
    simp only [aReg] at ev
    split at ev
    · rename_i v e1 h1 hv
      rw [aReg_env ev (fun i hi => ht i (by simp [hi])), aIns_env hv (ht i (by simp))]
    · cases ev
theorem aRegD_env {c : CallT} {m : TypeId → String → Option FuncId} {is : List AIns} : ∀ {p : List (Nat × List Nat)} {sn : List (Nat × Env × Value)} {e e' : Env} {h h' : Heap}, aRegD c m κ is p sn e h = some (e', h') → ∀ {t : Nat}, (∀ i ∈ is, i.dst ≠ some t) → e' t = e t
  | [], sn, e, e', h, h', ev, t, _ => by cases ev; rfl
  | (j, re) :: p, sn, e, e', h, h', ev, t, ht => by
    simp only [aRegD] at ev
    split at ev
    · cases ev
    · rename_i i hi
      split at ev
      · cases ev
      · rename_i v e1 h1 hv
        split at ev
        · rw [aRegD_env ev ht, aIns_env hv (ht i (List.mem_of_getElem? hi))]
        · cases ev
theorem exec_env : ∀ {n : Nat} {c : ACode} {e e' : Env} {h h' : Heap} {ex : AExit}, exec X n κ c e h = some (ex, e', h') → ∀ {t : Nat}, t ∉ wC c → e' t = e t
  | 0, c, e, e', h, h', ex, ev, t, ht => by simp [exec] at ev
  | n + 1, c, e, e', h, h', ex, ev, t, ht => by
    cases c with
    | skip => simp [exec] at ev; rw [ev.2.1]
    | exit i => simp [exec] at ev; rw [ev.2.1]
    | ret => simp [exec] at ev; rw [ev.2.1]
    | reg is =>
      simp only [exec] at ev
      obtain ⟨x, hx, e2⟩ := Option.map_eq_some_iff.1 ev
      cases e2
      exact aReg_env hx (fun i hi => wIs_mem hi ht)
    | regD is p =>
      simp only [exec] at ev
      obtain ⟨x, hx, e2⟩ := Option.map_eq_some_iff.1 ev
      cases e2
      exact aRegD_env hx (fun i hi => wIs_mem hi ht)
    | seq a b =>
      simp only [wC, List.mem_append, not_or] at ht
      rw [exec] at ev
      cases he : exec X n κ a e h with
      | none => rw [he] at ev; cases ev
      | some q =>
        obtain ⟨x1, e1, h1⟩ := q
        rw [he] at ev
        have k := exec_env he ht.1
        cases x1 with
        | normal => rw [exec_env ev ht.2, k]
        | exit i => cases ev; exact k
        | ret => cases ev; exact k
    | cond c a b =>
      simp only [wC, List.mem_append, not_or] at ht
      rw [exec] at ev
      split at ev
      · rename_i b _; cases b
        · exact exec_env ev ht.2
        · exact exec_env ev ht.1
      · cases ev
    | block id a =>
      simp only [wC] at ht
      rw [exec] at ev
      cases he : exec X n κ a e h with
      | none => rw [he] at ev; cases ev
      | some q =>
        obtain ⟨x1, e1, h1⟩ := q
        rw [he] at ev
        have k := exec_env he ht
        cases x1 <;> cases ev <;> exact k
    | loop a =>
      simp only [wC] at ht
      rw [exec] at ev
      cases he : exec X n κ a e h with
      | none => rw [he] at ev; cases ev
      | some q =>
        obtain ⟨x1, e1, h1⟩ := q
        rw [he] at ev
        have k := exec_env he ht
        cases x1 with
        | normal => rw [exec_env ev (by simpa only [wC] using ht), k]
        | exit i => cases ev; exact k
        | ret => cases ev; exact k
    | rangeF f ps asg body =>
      rw [exec] at ev
      split at ev
      · split at ev
        · split at ev
          · split at ev
            · cases ev
            · cases ev; rfl
          · cases ev
        · cases ev
      · cases ev
def Low (f : Nat) (h h' : Heap) : Prop := h.size ≤ h'.size ∧ ∀ b, b < f → h'[b]? = h[b]?
theorem Low.refl (f : Nat) (h : Heap) : Low f h h := ⟨Nat.le_refl _, fun _ _ => rfl⟩
theorem Low.trans {f : Nat} {h1 h2 h3 : Heap} (a : Low f h1 h2) (b : Low f h2 h3) : Low f h1 h3 := ⟨Nat.le_trans a.1 b.1, fun x hx => by rw [b.2 x hx, a.2 x hx]⟩
theorem Low.push {f : Nat} {h : Heap} (hf : f ≤ h.size) (x : AObj) : Low f h (h.push x) := ⟨by simp, fun b hb => by rw [Array.getElem?_push, if_neg (by omega)]⟩
theorem Low.set {f : Nat} {h : Heap} {b : Nat} (hb : f ≤ b) (x : AObj) : Low f h (h.setIfInBounds b x) := ⟨by simp, fun y hy => by rw [Array.getElem?_setIfInBounds, if_neg (by omega)]⟩
theorem Low.weak {f g : Nat} {h h' : Heap} (a : Low f h h') (hg : g ≤ f) : Low g h h' := ⟨a.1, fun b hb => a.2 b (by omega)⟩
def CLow (f : Nat) (c : CallT) : Prop := ∀ v a h r h', f ≤ h.size → c v a h = some (r, h') → Low f h h'
def XLow (X : Tab) : Prop := ∀ g s, X.ext g = some s → ∀ κ a h v h', κ.fl ≤ h.size → s κ a h = some (v, h') → Low κ.fl h h'
theorem wr_low {h h' : Heap} {b off : Nat} {vs : List Value} (ev : wr κ h b off vs = some h') : Low κ.fl h h' := by
  unfold wr at ev
  split at ev
  · split at ev
    · rename_i q
      simp only [mayPut, Bool.and_eq_true, decide_eq_true_eq] at q
      cases ev; exact .set q.1.1.1 _
    · cases ev
  · cases ev
theorem aOp_low {c : CallT} (hc : CLow κ.fl c) {m : TypeId → String → Option FuncId} {e : Env} {h h' : Heap} {o : AOp} {v : Value} (hf : κ.fl ≤ h.size) (ev : aOp c m κ e h o = some (v, h')) : Low κ.fl h h' := by
  have hp : aPure e h o = some (v, h') → Low κ.fl h h' := by
    intro ev
    unfold aPure at ev
    split at ev
    · cases ev; exact .push hf _
    · obtain ⟨x, _, q⟩ := Option.map_eq_some_iff.1 ev; cases q; exact .refl _ _
  cases o <;> first | exact hp ev | skip
  · simp only [aOp] at ev
    split at ev
    · split at ev
      · cases ev
      · split at ev
        · obtain ⟨x, hx, q⟩ := Option.map_eq_some_iff.1 ev; cases q; exact wr_low hx
        · cases ev
    · cases ev
  · simp only [aOp, aAppend] at ev
    split at ev
    · split at ev
      · cases ev
      · split at ev
        · cases ev
        · split at ev
          · split at ev
            · split at ev <;> cases ev; exact .refl _ _
            · split at ev
              · cases ev; exact .refl _ _
              · obtain ⟨x, hx, q⟩ := Option.map_eq_some_iff.1 ev; cases q; exact wr_low hx
          · split at ev
            · split at ev <;> cases ev; exact .push hf _
            · split at ev
              · split at ev
                · rename_i q
                  simp only [Bool.and_eq_true, decide_eq_true_eq] at q
                  cases ev
                  exact (Low.set q.1.1.1 _).trans (.push (by simp; exact hf) _)
                · cases ev
              · cases ev
    · cases ev
  · simp only [aOp, aCopy] at ev
    split at ev
    · split at ev
      · cases ev; exact .refl _ _
      · split at ev
        · cases ev
        · split at ev
          · cases ev; exact .refl _ _
          · obtain ⟨x, hx, q⟩ := Option.map_eq_some_iff.1 ev; cases q; exact wr_low hx
    · cases ev
  · exact hc _ _ _ _ _ hf ev
  · simp only [aOp] at ev
    split at ev
    · split at ev
      · exact hc _ _ _ _ _ hf ev
      · cases ev
    · cases ev
  · simp only [aOp, aNext] at ev
    split at ev
    · split at ev
      · split at ev
        · rename_i q
          split at ev
          · cases ev; exact .set q _
          · cases ev; exact .refl _ _
        · cases ev
      · cases ev
    · cases ev
  · simp only [aOp, aClear] at ev
    split at ev
    · cases ev; exact .refl _ _
    · split at ev
      · cases ev
      · obtain ⟨x, hx, q⟩ := Option.map_eq_some_iff.1 ev; cases q; exact wr_low hx
    · cases ev
  · simp only [aOp, aInsert] at ev
    split at ev
    · split at ev
      · split at ev
        · rename_i q
          simp only [mayPut, Bool.and_eq_true, decide_eq_true_eq] at q
          split at ev
          · cases ev; exact .set q.1 _
          · cases ev
        · cases ev
      · cases ev
    · cases ev
theorem aIns_low {c : CallT} (hc : CLow κ.fl c) {m : TypeId → String → Option FuncId} {i : AIns} {e e' : Env} {h h' : Heap} {v : Option Value} (hf : κ.fl ≤ h.size) (ev : aIns c m κ i e h = some (v, e', h')) : Low κ.fl h h' := by
  unfold aIns at ev
  split at ev
  · split at ev
    · rename_i hv; cases ev; exact aOp_low hc hf hv
    · cases ev
  · cases ev; exact .refl _ _
theorem aReg_low {c : CallT} (hc : CLow κ.fl c) {m : TypeId → String → Option FuncId} : ∀ {is : List AIns} {e e' : Env} {h h' : Heap}, κ.fl ≤ h.size → aReg c m κ is e h = some (e', h') → Low κ.fl h h'
  | [], e, e', h, h', hf, ev => by cases ev; exact .refl _ _
  | i :: is, e, e', h, h', hf, ev => by
    simp only [aReg] at ev
    split at ev
    · rename_i v e1 h1 hv
      have k := aIns_low hc hf hv
      exact k.trans (aReg_low hc (Nat.le_trans hf k.1) ev)
    · cases ev
theorem aRegD_low {c : CallT} (hc : CLow κ.fl c) {m : TypeId → String → Option FuncId} {is : List AIns} : ∀ {p : List (Nat × List Nat)} {sn : List (Nat × Env × Value)} {e e' : Env} {h h' : Heap}, κ.fl ≤ h.size → aRegD c m κ is p sn e h = some (e', h') → Low κ.fl h h'
  | [], sn, e, e', h, h', hf, ev => by cases ev; exact .refl _ _
  | (j, re) :: p, sn, e, e', h, h', hf, ev => by
    simp only [aRegD] at ev
    split at ev
    · cases ev
    · split at ev
      · cases ev
      · rename_i v e1 h1 hv
        split at ev
        · have k := aIns_low hc hf hv
          exact k.trans (aRegD_low hc (Nat.le_trans hf k.1) ev)
        · cases ev
theorem pushes_low {f : Nat} {h : Heap} (hf : f ≤ h.size) (l : List AObj) : Low f h (l.foldl Array.push h) :=
  ⟨by rw [pushes_size]; omega, fun b hb => pushes_lt h l (by omega)⟩
theorem finish_low {fl : Flag} {h h1 h' : Heap} {v v' : Value} {f : Nat} (hf : f ≤ h.size) (k : Low f h h1) (ev : finish fl h h1 v = some (v', h')) : Low f h h' := by
  cases fl with
  | plain => cases ev; exact k
  | pure =>
    simp only [finish] at ev
    obtain ⟨⟨x, w⟩, _, q⟩ := Option.map_eq_some_iff.1 ev
    cases q; exact pushes_low hf w
  | state =>
    simp only [finish] at ev
    obtain ⟨⟨x, w⟩, _, q⟩ := Option.map_eq_some_iff.1 ev
    cases q
    have hs : (h1.take h.size).size = h.size := by have := k.1; simp; omega
    have k2 : Low f h (h1.take h.size) := by
      refine ⟨by omega, fun b hb => ?_⟩
      rw [← k.2 b hb]
      have : b < h.size := by omega
      simp only [Array.take, Array.getElem?_extract]
      have hh := k.1
      rw [if_pos (by omega)]; simp
    exact k2.trans (pushes_low (by omega) w)
theorem ctx_fl (fl : Flag) {n : Nat} (hf : κ.fl ≤ n) : κ.fl ≤ (fl.ctx κ n).fl ∧ (fl.ctx κ n).fl ≤ n := by
  cases fl <;> simp [Flag.ctx] <;> omega
theorem low_all (hX : XLow X) : ∀ n,
    (∀ κ c e h ex e' h', κ.fl ≤ h.size → exec X n κ c e h = some (ex, e', h') → Low κ.fl h h') ∧
    (∀ κ, CLow κ.fl (callV X n κ)) ∧
    (∀ κ g a h v h', κ.fl ≤ h.size → callF X n κ g a h = some (v, h') → Low κ.fl h h')
  | 0 => ⟨fun κ c e h ex e' h' _ ev => by simp [exec] at ev, fun κ v a h r h' _ ev => by simp [callV] at ev, fun κ g a h v h' _ ev => by simp [callF] at ev⟩
  | n + 1 => by
    obtain ⟨hE, hV, hF⟩ := low_all hX n
    refine ⟨fun κ c e h ex e' h' hf ev => ?_, fun κ f a h r h' hf ev => ?_, fun κ g a h v h' hf ev => ?_⟩
    · cases c with
      | skip => simp [exec] at ev; rw [ev.2.2]; exact .refl _ _
      | exit id => simp [exec] at ev; rw [ev.2.2]; exact .refl _ _
      | ret => simp [exec] at ev; rw [ev.2.2]; exact .refl _ _
      | reg is =>
        simp only [exec] at ev
        obtain ⟨x, hx, e2⟩ := Option.map_eq_some_iff.1 ev
        cases e2; exact aReg_low (hV κ) hf hx
      | regD is p =>
        simp only [exec] at ev
        obtain ⟨x, hx, e2⟩ := Option.map_eq_some_iff.1 ev
        cases e2; exact aRegD_low (hV κ) hf hx
      | seq a b =>
        rw [exec] at ev
        cases he : exec X n κ a e h with
        | none => rw [he] at ev; cases ev
        | some q =>
          obtain ⟨x1, e1, h1⟩ := q
          rw [he] at ev
          have k := hE _ _ _ _ _ _ _ hf he
          cases x1 with
          | normal => exact k.trans (hE _ _ _ _ _ _ _ (Nat.le_trans hf k.1) ev)
          | exit i => cases ev; exact k
          | ret => cases ev; exact k
      | cond c a b =>
        rw [exec] at ev
        split at ev
        · exact hE _ _ _ _ _ _ _ hf ev
        · cases ev
      | block id a =>
        rw [exec] at ev
        cases he : exec X n κ a e h with
        | none => rw [he] at ev; cases ev
        | some q =>
          obtain ⟨x1, e1, h1⟩ := q
          rw [he] at ev
          have k := hE _ _ _ _ _ _ _ hf he
          cases x1 <;> cases ev <;> exact k
      | loop a =>
        rw [exec] at ev
        cases he : exec X n κ a e h with
        | none => rw [he] at ev; cases ev
        | some q =>
          obtain ⟨x1, e1, h1⟩ := q
          rw [he] at ev
          have k := hE _ _ _ _ _ _ _ hf he
          cases x1 with
          | normal => exact k.trans (hE _ _ _ _ _ _ _ (Nat.le_trans hf k.1) ev)
          | exit i => cases ev; exact k
          | ret => cases ev; exact k
      | rangeF f ps asg body =>
        rw [exec] at ev
        split at ev
        · split at ev
          · rename_i v1 h1 hv
            have k := hF _ _ _ _ _ _ (by simp; omega) hv
            have k2 := (Low.push hf _).trans k
            split at ev
            · split at ev
              · cases ev
              · cases ev; exact k2.trans (.set hf _)
            · cases ev
          · cases ev
        · cases ev
    · cases f with
      | func fn first cap =>
        cases fn with
        | func g => rw [callV] at ev; exact hF _ _ _ _ _ _ hf ev
        | yield l =>
          rw [callV] at ev
          try dsimp only at ev
          split at ev
          · split at ev
            · rename_i hc
              simp only [Bool.and_eq_true, decide_eq_true_eq] at hc
              split at ev
              · rename_i e1 h1 he
                have k := hE _ _ _ _ _ _ _ hf he
                split at ev
                · split at ev
                  · split at ev
                    · rename_i ex e2 h2 he2
                      have k2 := k.trans ((Low.set hc.1 _).trans (hE _ _ _ _ _ _ _ (by simp; exact Nat.le_trans hf k.1) he2))
                      split at ev
                      · split at ev <;> cases ev <;> exact k2.trans (.set hc.1 _)
                      · cases ev
                    · cases ev
                  · cases ev
                · cases ev
              · cases ev
            · cases ev
          · cases ev
        | _ => simp [callV] at ev
      | _ => simp [callV] at ev
    · rw [callF] at ev
      cases hx : X.ext g with
      | some s => rw [hx] at ev; exact hX g s hx _ _ _ _ _ hf ev
      | none =>
        rw [hx] at ev
        try dsimp only at ev
        cases hfn : X.fn g with
        | none => rw [hfn] at ev; cases ev
        | some fn =>
          rw [hfn] at ev
          try dsimp only at ev
          have hc := ctx_fl (κ := κ) fn.flag hf
          cases he : exec X n (fn.flag.ctx κ h.size) fn.body (env0 a) h with
          | none => rw [he] at ev; cases ev
          | some q =>
            obtain ⟨x1, e1, h1⟩ := q
            rw [he] at ev
            have k := (hE _ _ _ _ _ _ _ hc.2 he).weak hc.1
            cases x1 with
            | exit i => cases ev
            | normal =>
              dsimp only at ev
              split at ev
              · exact finish_low hf k ev
              · cases ev
            | ret =>
              dsimp only at ev
              split at ev
              · exact finish_low hf k ev
              · cases ev
theorem Ok_keep (hX : XLow X) {c : ACode} {e : Env} {h : Heap} {Q : AExit → Env → Heap → Prop} (hf : κ.fl ≤ h.size)
    (a : Ok X κ c e h (fun ex e' h' => (∀ t, t ∉ wC c → e' t = e t) → Low κ.fl h h' → Q ex e' h')) : Ok X κ c e h Q := by
  obtain ⟨n, ex, e', h', ev, q⟩ := a
  exact ⟨n, ex, e', h', ev, q (fun t ht => exec_env ev ht) ((low_all hX n).1 _ _ _ _ _ _ _ hf ev)⟩
def Head {A : Type} (I : A → Env → Heap → Prop) (μ : A → Nat) (a : A) (e : Env) (h : Heap) (p : Ph (I, μ, a)) : Prop := ∃ a', I a' e h ∧ μ a' < μ a
theorem Head.mk {A : Type} {I : A → Env → Heap → Prop} {μ : A → Nat} {a : A} {e : Env} {h : Heap} {p : Ph (I, μ, a)} (a' : A) (i : I a' e h) (m : μ a' < μ a) : Head I μ a e h p := ⟨a', i, m⟩
theorem Run_while {A : Type} {c : ACode} {e0 : Env} {h0 : Heap} {K : List Frame} {f : Nat} {cs : List Nat} (hX : XLow X) (ws : List Nat) (hf : f ≤ h0.size) (I : A → Env → Heap → Prop) (μ : A → Nat) (a0 : A) (hw : wC c = ws) (i0 : I a0 e0 h0) {p : Ph K}
    (step : ∀ a e h, I a e h → (∀ t, t ∉ ws → e t = e0 t) → Low f h0 h → Run X ⟨f, cs⟩ c e h (.inv (fun e h => Head I μ a e h ⟨⟩) :: K) ⟨⟩) : Run X ⟨f, cs⟩ (.loop c) e0 h0 K p := by
  subst hw
  refine w_loop (fun a e h => I a e h ∧ (∀ t, t ∉ wC c → e t = e0 t) ∧ Low f h0 h) μ (a0 := a0) ⟨i0, fun _ _ => rfl, .refl _ _⟩ ?_
  rintro a e h ⟨i, k1, k2⟩
  refine Ok_keep (κ := ⟨f, cs⟩) hX (Nat.le_trans hf k2.1) ((step a e h i k1 k2).mono fun ex e' h' q => ?_)
  intro m1 m2
  cases ex with
  | normal =>
    obtain ⟨a', q1, q2⟩ := q
    exact ⟨a', ⟨q1, fun t ht => by rw [m1 t ht, k1 t ht], k2.trans m2⟩, q2⟩
  | exit i => exact q
  | ret => exact q
end Go.AM
end

section
namespace Go.AM
def bkV : Value → Nat
  | .slice (some a) _ _ => a.block
  | _ => 0
def ofV : Value → Nat
  | .slice (some a) _ _ => a.off
  | _ => 0
@[simp] theorem bkV_s {b o n c : Nat} : bkV (.slice (some ⟨b, o, none⟩) n c) = b := rfl
@[simp] theorem ofV_s {b o n c : Nat} : ofV (.slice (some ⟨b, o, none⟩) n c) = o := rfl
def clV (h : Heap) (v : Value) : List Value := (h.cellsAt (bkV v)).getD []
def nth {α : Type} [Inhabited α] (xs : List α) (i : Nat) : α := xs.getD i default
section
variable {α : Type} [Inhabited α]
theorem nth_get {xs : List α} {i : Nat} (hi : i < xs.length) : xs[i]? = some (nth xs i) := by
  unfold nth; rw [List.getD_eq_getElem?_getD, List.getElem?_eq_getElem hi]; rfl
theorem nth_of {xs : List α} {i : Nat} {x : α} (hx : xs[i]? = some x) : nth xs i = x := by
  unfold nth; rw [List.getD_eq_getElem?_getD, hx]; rfl
theorem nth_mem {xs : List α} {i : Nat} (hi : i < xs.length) : nth xs i ∈ xs := List.mem_of_getElem? (nth_get hi)
theorem nth_drop {xs : List α} {i : Nat} (hi : i < xs.length) : xs.drop i = nth xs i :: xs.drop (i + 1) := by
  rw [List.drop_eq_getElem_cons hi]; congr 1; exact (nth_of (List.getElem?_eq_getElem hi)).symm
theorem nth_take {xs : List α} {i : Nat} (hi : i < xs.length) : xs.take (i + 1) = xs.take i ++ [nth xs i] := by
  rw [List.take_add_one, nth_get hi]; rfl
@[simp] theorem nth_zero {x : α} {xs : List α} : nth (x :: xs) 0 = x := rfl
@[simp] theorem nth_succ {x : α} {xs : List α} {i : Nat} : nth (x :: xs) (i + 1) = nth xs i := rfl
theorem nth_app1 {xs ys : List α} {i : Nat} (hi : i < xs.length) : nth (xs ++ ys) i = nth xs i := by
  unfold nth; rw [List.getD_eq_getElem?_getD, List.getElem?_append_left hi, ← List.getD_eq_getElem?_getD]
theorem nth_app2 {xs ys : List α} {i : Nat} (hi : xs.length ≤ i) : nth (xs ++ ys) i = nth ys (i - xs.length) := by
  unfold nth; rw [List.getD_eq_getElem?_getD, List.getElem?_append_right hi, ← List.getD_eq_getElem?_getD]
theorem nth_ext {xs ys : List α} (hl : xs.length = ys.length) (he : ∀ i, i < xs.length → nth xs i = nth ys i) : xs = ys := by
  apply List.ext_getElem? ; intro i
  by_cases hi : i < xs.length
  · rw [nth_get hi, nth_get (hl ▸ hi), he i hi]
  · rw [List.getElem?_eq_none (by omega), List.getElem?_eq_none (by omega)]
end
variable {h : Heap}
section
variable {α : Type} [Inhabited α] {enc : α → List Value} {e k : Nat} {v : Value} {xs : List α}
theorem grab_elems (hk : ∀ x, (enc x).length = k) {i p m : Nat} (hi : i < xs.length) (hp : p + m ≤ k) : grab (elems enc xs) (i * k + p) m = some (((enc (nth xs i)).drop p).take m) := by
  unfold grab
  have hl := elems_len hk xs
  have : i * k + p + m ≤ xs.length * k := by
    calc i * k + p + m ≤ i * k + k := by omega
      _ = (i + 1) * k := by rw [Nat.add_mul, Nat.one_mul]
      _ ≤ xs.length * k := Nat.mul_le_mul_right k hi
  rw [if_pos (by rw [hl]; exact this)]
  congr 1
  rw [← List.drop_drop, elems_drop hk, nth_drop hi, elems_cons, List.drop_append_of_le_length (by rw [hk]; omega), List.take_append_of_le_length (by rw [List.length_drop, hk]; omega)]
theorem grab_elems0 (hk : ∀ x, (enc x).length = k) {i m : Nat} (hi : i < xs.length) (hp : m ≤ k) : grab (elems enc xs) (i * k) m = some ((enc (nth xs i)).take m) := by
  have := grab_elems (xs := xs) hk hi (p := 0) (m := m) (by omega); simpa using this
theorem get_elems (hk : ∀ x, (enc x).length = k) {i p : Nat} (hi : i < xs.length) (hp : p < k) : (elems enc xs)[i * k + p]? = (enc (nth xs i))[p]? := by
  have h1 := grab_elems (xs := xs) hk hi (p := p) (m := 1) (by omega)
  unfold grab at h1
  split at h1
  · injection h1 with h1
    have := congrArg (fun l => l[0]?) h1
    simpa [List.getElem?_take, List.getElem?_drop] using this
  · cases h1
theorem get_elems0 (hk : ∀ x, (enc x).length = k) {i : Nat} (hi : i < xs.length) (hp : 0 < k) : (elems enc xs)[i * k]? = (enc (nth xs i))[0]? := by
  have := get_elems (xs := xs) hk hi hp; simpa using this
theorem Row.ptr (r : Row h e k v xs.length (elems enc xs)) (hn : 0 < xs.length) : ∃ c, v = .slice (some ⟨bkV v, ofV v, none⟩) xs.length c ∧ bkV v < h.size ∧ h.cellsAt (bkV v) = some (clV h v) ∧ grab (clV h v) (ofV v) (xs.length * k) = some (elems enc xs) := by
  obtain ⟨a, c, rfl⟩ := r.form
  obtain ⟨b, o, cs, rfl, hb, hc, hg⟩ := r.cell hn
  refine ⟨c, rfl, hb, ?_, ?_⟩
  · simp only [clV, bkV]; rw [hc]; rfl
  · simp only [clV, bkV, ofV]; rw [hc]; exact hg
theorem Row.lt (r : Row h e k v xs.length (elems enc xs)) : 0 < xs.length → bkV v < h.size := fun hn => (r.ptr hn).choose_spec.2.1
theorem Row.R (r : Row h e k v xs.length (elems enc xs)) (hk : ∀ x, (enc x).length = k) :
    lenV v = some (.int .i64 xs.length) ∧
    (∀ (q : IntKind) (j : Int), 0 ≤ j → j < xs.length → idxV k v (.int q j) = some (.pointer (some ⟨bkV v, ofV v + j.toNat * k, none⟩))) ∧
    (0 < xs.length → h.cellsAt (bkV v) = some (clV h v)) ∧
    (∀ i m, i < xs.length → m ≤ k → grab (clV h v) (ofV v + i * k) m = some ((enc (nth xs i)).take m)) ∧
    (∀ i p m, i < xs.length → p + m ≤ k → grab (clV h v) (ofV v + i * k + p) m = some (((enc (nth xs i)).drop p).take m)) ∧
    (∀ i, i < xs.length → 0 < k → (clV h v)[ofV v + i * k]? = (enc (nth xs i))[0]?) ∧
    (∀ i p, i < xs.length → p < k → (clV h v)[ofV v + i * k + p]? = (enc (nth xs i))[p]?) := by
  have hsub : ∀ i, i < xs.length → ∀ p m, p + m ≤ k → i * k + (p + m) ≤ xs.length * k := fun i hi p m hp => by
    calc i * k + (p + m) ≤ i * k + k := by omega
      _ = (i + 1) * k := by rw [Nat.add_mul, Nat.one_mul]
      _ ≤ xs.length * k := Nat.mul_le_mul_right k hi
  have hgr : ∀ i p m, i < xs.length → p + m ≤ k → grab (clV h v) (ofV v + i * k + p) m = some (((enc (nth xs i)).drop p).take m) := fun i p m hi hp => by
    obtain ⟨c, _, _, _, hg⟩ := r.ptr (by omega)
    rw [Nat.add_assoc, grab_sub hg (p := i * k + p) (by have := hsub i hi p m hp; omega), ← grab_elems (xs := xs) hk hi hp]
    unfold grab
    rw [if_pos (by rw [elems_len hk]; have := hsub i hi p m hp; omega)]
  have hge : ∀ i p, i < xs.length → p < k → (clV h v)[ofV v + i * k + p]? = (enc (nth xs i))[p]? := fun i p hi hp => by
    obtain ⟨c, _, _, _, hg⟩ := r.ptr (by omega)
    rw [Nat.add_assoc, grab_get hg (p := i * k + p) (by have := hsub i hi p 1 (by omega); omega), get_elems hk hi hp]
  refine ⟨?_, fun q j h0 h1 => ?_, fun hn => (r.ptr hn).choose_spec.2.2.1, fun i m hi hm => ?_, hgr, fun i hi h0 => ?_, hge⟩
  · obtain ⟨a, c, rfl⟩ := r.form; rfl
  · obtain ⟨c, hv, _⟩ := r.ptr (by omega)
    conv => lhs; rw [hv]
    rw [idxV_s, if_pos ⟨h0, h1⟩, addr_add]
  · have := hgr i 0 m hi (by omega); simpa using this
  · have := hge i 0 hi h0; simpa using this
end
theorem Low.c {f : Nat} {h h' : Heap} (k : Low f h h') {b : Nat} (hb : b < f) : h'.cellsAt b = h.cellsAt b := by
  unfold Heap.cellsAt; rw [k.2 b hb]
theorem Row.low {e k n : Nat} {v : Value} {l : List Value} {h' : Heap} {f : Nat} (r : Row h e k v n l) (hl : Low f h h') (hf : h.size ≤ f) : Row h' e k v n l :=
  r.keep (fun b q => hl.2 b (by have := r.blt q; omega)) hl.1
theorem KeepB.low {h h' : Heap} (k : KeepB h h' none) : Low h.size h h' := ⟨k.1, fun b hb => k.2 b hb (by simp)⟩
theorem Low.keep {h h' : Heap} (k : Low h.size h h') : KeepB h h' none := ⟨k.1, fun b hb _ => k.2 b hb⟩
theorem Low.pushR {f : Nat} {h0 h : Heap} (k : Low f h0 h) (hf : f ≤ h0.size) (x : AObj) : Low f h0 (h.push x) := k.trans (.push (Nat.le_trans hf k.1) x)
theorem Low.setR {f b : Nat} {h0 h : Heap} (k : Low f h0 h) (hb : f ≤ b) (x : AObj) : Low f h0 (h.setIfInBounds b x) := k.trans (.set hb x)
theorem Low.up {f g : Nat} {h0 h1 h2 : Heap} (k : Low f h0 h1) (k2 : Low g h1 h2) (hg : f ≤ g) : Low f h0 h2 := k.trans (k2.weak hg)
def rowV (b n : Nat) : Value := if n = 0 then .slice none 0 0 else .slice (some ⟨b, 0, none⟩) n n
def pushR (h : Heap) (e : TypeId) (l : List Value) : Heap := if l = [] then h else h.push (.cells l e)
@[simp] theorem lenV_row {b n : Nat} : lenV (rowV b n) = some (.int .i64 n) := by
  unfold rowV; split
  · rename_i q; subst q; rfl
  · rfl
theorem idxV_row {b n k : Nat} {q : IntKind} {j : Int} (h0 : 0 ≤ j) (h1 : j < n) : idxV k (rowV b n) (.int q j) = some (.pointer (some ⟨b, j.toNat * k, none⟩)) := by
  unfold rowV; rw [if_neg (by omega), idxV_s, if_pos ⟨h0, h1⟩, addr_add, Nat.zero_add]
@[simp] theorem size_pushR {e : TypeId} {l : List Value} : (pushR h e l).size = h.size + min l.length 1 := by
  unfold pushR; split
  · rename_i q; subst q; simp
  · rename_i q; have : 0 < l.length := List.length_pos_iff.2 q; simp; omega
theorem cellsAt_pushR {e : TypeId} {l : List Value} {b : Nat} (hb : b < h.size) : (pushR h e l).cellsAt b = h.cellsAt b := by
  unfold pushR; split
  · rfl
  · rw [cellsAt_push, if_neg (by omega)]
theorem cellsAt_pushR' {e : TypeId} {l : List Value} (hl : 0 < l.length) : (pushR h e l).cellsAt h.size = some l := by
  unfold pushR; rw [if_neg (by intro q; rw [q] at hl; simp at hl), cellsAt_push, if_pos rfl]; rfl
theorem low_pushR {f : Nat} (hf : f ≤ h.size) (e : TypeId) (l : List Value) : Low f h (pushR h e l) := by
  unfold pushR; split
  · exact .refl _ _
  · exact .push hf _
theorem row_pushR {α : Type} {enc : α → List Value} {e k : Nat} {xs : List α} (hk : ∀ x, (enc x).length = k) (h0 : 0 < k) : Row (pushR h e (elems enc xs)) e k (rowV h.size xs.length) xs.length (elems enc xs) := by
  cases xs with
  | nil => exact ⟨.inl ⟨rfl, rfl, rfl⟩⟩
  | cons x xs =>
    have hl : (elems enc (x :: xs)).length = (x :: xs).length * k := elems_len hk _
    have hn : elems enc (x :: xs) ≠ [] := by
      intro q; rw [q] at hl; simp only [List.length_nil, List.length_cons] at hl
      have : 0 < (xs.length + 1) * k := Nat.mul_pos (by omega) h0
      omega
    unfold rowV pushR
    rw [if_neg hn, if_neg (by simp)]
    refine ⟨.inr ⟨h.size, 0, (x :: xs).length, rfl, Nat.le_refl _, by simp, .inr ⟨elems enc (x :: xs), by simp, ?_⟩⟩⟩
    unfold grab; rw [if_pos (by omega), ← hl, List.drop_zero, List.take_length]
theorem low2_row {b n m : Nat} : low2 m (rowV b n) = decide (n = 0 ∨ b < m) := by
  unfold rowV; split
  · rename_i q; simp [q]
  · rename_i q; simp [q]
theorem src_rowV {e k b n : Nat} {l : List Value} (hc : h.cellsAt b = some l) (hl : l.length = n * k) : srcCells h k (rowV b n) = some (n, l) := by
  unfold rowV; split
  · rename_i q; subst q
    have : l = [] := List.eq_nil_of_length_eq_zero (by omega)
    rw [this]; rfl
  · unfold srcCells
    simp only [Option.isSome_none, Bool.false_eq_true, if_false]
    split
    · rename_i q; have : l = [] := List.eq_nil_of_length_eq_zero (by omega)
      rw [this]
    · rw [hc]; simp only [Option.bind_some, grab]
      rw [if_pos (by omega), ← hl]; simp
structure Own (g : Nat) (h : Heap) (e k : Nat) (w : Value) (l : List Value) : Prop where
  ex : (l = [] ∧ w = .slice none 0 0) ∨ (0 < l.length ∧ ∃ b n, w = .slice (some ⟨b, 0, none⟩) n n ∧ n * k = l.length ∧ h[b]? = some (.cells l e) ∧ g ≤ b)
  one : l.all one = true
variable {g e k : Nat} {w : Value} {l : List Value}
theorem Own.nil {g e k : Nat} : Own g h e k (.slice none 0 0) [] := ⟨.inl ⟨rfl, rfl⟩, rfl⟩
theorem Own.low {h' : Heap} {f : Nat} (o : Own g h e k w l) (hl : Low f h h') (hf : h.size ≤ f) : Own g h' e k w l := by
  refine ⟨?_, o.one⟩
  rcases o.ex with q | ⟨h0, b, n, q1, q2, q3, q4⟩
  · exact .inl q
  · exact .inr ⟨h0, b, n, q1, q2, by rw [hl.2 b (by have := (Array.getElem?_eq_some_iff.1 q3).1; omega)]; exact q3, q4⟩
theorem Own.keep {h' : Heap} (o : Own g h e k w l) (hk : ∀ b, blk w = some b → h'[b]? = h[b]?) : Own g h' e k w l := by
  refine ⟨?_, o.one⟩
  rcases o.ex with q | ⟨h0, b, n, q1, q2, q3, q4⟩
  · exact .inl q
  · exact .inr ⟨h0, b, n, q1, q2, by rw [hk b (by rw [q1]; rfl)]; exact q3, q4⟩
theorem Own.bk {b : Nat} (o : Own g h e k w l) (q : Go.AM.blk w = some b) : g ≤ b ∧ b < h.size := by
  rcases o.ex with ⟨_, q2⟩ | ⟨_, b', n, q1, _, q3, q4⟩
  · rw [q2] at q; cases q
  · rw [q1] at q; simp only [Go.AM.blk, Option.some.injEq] at q; subst q; exact ⟨q4, (Array.getElem?_eq_some_iff.1 q3).1⟩
theorem Own.push (o : Own g h e k w l) (x : AObj) : Own g (h.push x) e k w l := o.low (.push (Nat.le_refl _) x) (Nat.le_refl _)
theorem Own.row {α : Type} {enc : α → List Value} {xs : List α} (o : Own g h e k w (elems enc xs)) (hk : ∀ x, (enc x).length = k) (h0 : 0 < k) : Row h e k w xs.length (elems enc xs) := by
  rcases o.ex with ⟨q1, q2⟩ | ⟨hl, b, n, q1, q2, q3, q4⟩
  · have := elems_len hk xs
    rw [q1] at this
    have hx : xs.length = 0 := by
      rcases Nat.mul_eq_zero.1 this.symm with q | q
      · exact q
      · omega
    rw [hx, q1, q2]; exact ⟨.inl ⟨rfl, rfl, rfl⟩⟩
  · have hn : n = xs.length := by
      have := elems_len hk xs
      exact Nat.eq_of_mul_eq_mul_right h0 (q2.trans this)
    subst hn
    refine ⟨.inr ⟨b, 0, xs.length, q1, Nat.le_refl _, (Array.getElem?_eq_some_iff.1 q3).1, .inr ⟨_, q3, ?_⟩⟩⟩
    unfold grab; rw [if_pos (by omega), q2]; simp
theorem Own.buf (o : Own g h e k w l) : Buf g h e k w l := by
  rcases o.ex with ⟨q1, q2⟩ | ⟨_, b, n, q1, q2, q3, q4⟩
  · exact .inl ⟨q2, q1⟩
  · exact .inr ⟨b, n, q1, q2, q3, q4⟩
theorem Own.weak {g' : Nat} (o : Own g h e k w l) (hg : g' ≤ g) : Own g' h e k w l := by
  refine ⟨?_, o.one⟩
  rcases o.ex with q | ⟨h0, b, n, q1, q2, q3, q4⟩
  · exact .inl q
  · exact .inr ⟨h0, b, n, q1, q2, q3, by omega⟩
theorem Own.app {f n m by_ : Nat} {x : Value} {l2 : List Value} (o : Own g h e k w l) (hk : 0 < k) (hf : f ≤ g) (hg : g ≤ h.size) (hx : srcCells h k x = some (m, l2)) (hl2 : l2.length = m * k) (h2 : l2.all Go.AM.one = true)
    (hn : n * k = l.length) (hs : (n + m) * by_ ≤ 140737488355328) (hs2 : n + m ≤ 35184372088832) :
    ∃ w' h', aAppend ⟨f, []⟩ h e k by_ w x = some (w', h') ∧ Own g h' e k w' (l ++ l2) ∧ Low g h h' := by
  by_cases hm : m = 0
  · subst hm
    have hl2 : l2 = [] := List.eq_nil_of_length_eq_zero (by omega)
    subst hl2
    refine ⟨w, h, ?_, by simpa using o, .refl _ _⟩
    rcases o.ex with ⟨q1, q2⟩ | ⟨hl, b, n', q1, q2, q3, q4⟩
    · subst q2
      have hn0 : n = 0 := by
        rw [q1] at hn
        rcases Nat.mul_eq_zero.1 hn with q | q
        · exact q
        · omega
      unfold aAppend; rw [hx]; simp
    · subst q1
      have : n' = n := Nat.eq_of_mul_eq_mul_right hk (q2.trans hn.symm)
      subst this
      rw [Nat.add_zero] at hs hs2
      unfold aAppend; rw [hx]
      simp only [Option.any_some, Option.isSome_none, Bool.false_eq_true, if_false, Nat.add_zero, Nat.le_refl, if_true, Nat.zero_mul]
      rw [if_neg (by omega)]
  · obtain ⟨v', h', q1, q2, q3, q4⟩ := append_buf (f := f) (by_ := by_) hk (Nat.le_trans hf hg) (o.buf.weak hf) hx (by omega) hn o.one h2 hs hs2 hl2
    have hb : g ≤ h.size := hg
    have hpos : 0 < l2.length := by rw [hl2]; exact Nat.mul_pos (by omega) hk
    refine ⟨v', h', q1, ⟨?_, by rw [List.all_append, o.one, h2]; rfl⟩, q3.1, fun y hy => q3.2 y (by omega) ?_⟩
    · rcases q2 with ⟨rfl, _⟩ | ⟨b, n', rfl, a2, a3, a4⟩
      · cases q4
      · cases q4; exact .inr ⟨by simp; omega, h.size, n', rfl, a2, a3, hg⟩
    · rcases o.ex with ⟨_, q⟩ | ⟨_, b, n', q, _, _, hgb⟩
      · rw [q]; simp [blk]
      · rw [q]; intro q; simp only [blk, Option.some.injEq] at q; omega
theorem Own.fin {α : Type} {enc : α → List Value} {xs : List α} {h0 : Heap} (o : Own h0.size h e k w (elems enc xs)) (hk : ∀ x, (enc x).length = k) (h0k : 0 < k) (hl : (elems enc xs).all (vBelow h0.size) = true) :
    finish .pure h0 h w = some (rowV h0.size xs.length, pushR h0 e (elems enc xs)) := by
  rcases o.ex with ⟨q1, q2⟩ | ⟨hp, b, n, q1, q2, q3, q4⟩
  · have := elems_len hk xs
    rw [q1] at this
    have hx : xs.length = 0 := by
      rcases Nat.mul_eq_zero.1 this.symm with q | q
      · exact q
      · omega
    rw [q2, q1, hx]; exact finish_pure rfl
  · have hn : n = xs.length := Nat.eq_of_mul_eq_mul_right h0k (q2.trans (elems_len hk xs))
    subst hn
    have hx : xs.length ≠ 0 := by intro q; rw [elems_len hk, q] at hp; simp at hp
    rw [q1, finish_own q4 q3 hl]
    unfold rowV pushR
    rw [if_neg hx, if_neg (by intro q; rw [q] at hp; simp at hp)]
theorem Buf.app {f n m by_ : Nat} {x : Value} {l2 : List Value} (o : Buf g h e k w l) (h1 : l.all Go.AM.one = true) (hk : 0 < k) (hf : f ≤ g) (hg : g ≤ h.size) (hx : srcCells h k x = some (m, l2)) (hl2 : l2.length = m * k) (h2 : l2.all Go.AM.one = true)
    (hn : n * k = l.length) (hs : (n + m) * by_ ≤ 140737488355328) (hs2 : n + m ≤ 35184372088832) :
    ∃ w' h', aAppend ⟨f, []⟩ h e k by_ w x = some (w', h') ∧ Buf g h' e k w' (l ++ l2) ∧ Low g h h' := by
  by_cases hm : m = 0
  · subst hm
    have hl2 : l2 = [] := List.eq_nil_of_length_eq_zero (by omega)
    subst hl2
    refine ⟨w, h, ?_, by simpa using o, .refl _ _⟩
    rcases o with ⟨q2, q1⟩ | ⟨b, n', q1, q2, q3, q4⟩
    · subst q2
      have hn0 : n = 0 := by
        rw [q1] at hn
        rcases Nat.mul_eq_zero.1 hn with q | q
        · exact q
        · omega
      unfold aAppend; rw [hx]; simp
    · subst q1
      have : n' = n := Nat.eq_of_mul_eq_mul_right hk (q2.trans hn.symm)
      subst this
      rw [Nat.add_zero] at hs hs2
      unfold aAppend; rw [hx]
      simp only [Option.any_some, Option.isSome_none, Bool.false_eq_true, if_false, Nat.add_zero, Nat.le_refl, if_true, Nat.zero_mul]
      rw [if_neg (by omega)]
  · obtain ⟨v', h', q1, q2, q3, q4⟩ := append_buf (f := f) (by_ := by_) hk (Nat.le_trans hf hg) (o.weak hf) hx (by omega) hn h1 h2 hs hs2 hl2
    refine ⟨v', h', q1, ?_, q3.1, fun y hy => q3.2 y (by omega) ?_⟩
    · rcases q2 with ⟨rfl, _⟩ | ⟨b, n', rfl, a2, a3, a4⟩
      · cases q4
      · cases q4; exact .inr ⟨h.size, n', rfl, a2, a3, hg⟩
    · rcases o with ⟨q, _⟩ | ⟨b, n', q, _, _, hgb⟩
      · rw [q]; simp [blk]
      · rw [q]; intro q; simp only [blk, Option.some.injEq] at q; omega
theorem Buf.rowE {α : Type} {enc : α → List Value} {xs : List α} (o : Buf g h e k w (elems enc xs)) (hk : ∀ x, (enc x).length = k) (h0 : 0 < k) : Row h e k w xs.length (elems enc xs) := o.row h0 (elems_len hk xs).symm
theorem Buf.new : Buf h.size (h.push (.cells [] e)) e k (.slice (some ⟨h.size, 0, none⟩) 0 0) [] := .inr ⟨h.size, 0, rfl, by simp, by simp, Nat.le_refl _⟩
theorem putAt_elems {α : Type} [Inhabited α] {enc : α → List Value} {xs : List α} {i : Nat} {y : α} (hk : ∀ x, (enc x).length = k) (hi : i < xs.length) : putAt (elems enc xs) (i * k) (enc y) = elems enc (xs.set i y) := by
  have e1 : elems enc xs = elems enc (xs.take i) ++ (enc (nth xs i) ++ elems enc (xs.drop (i + 1))) := by
    rw [← elems_cons, ← nth_drop hi, ← elems_append, List.take_append_drop]
  have e2 : xs.set i y = xs.take i ++ y :: xs.drop (i + 1) := by rw [List.set_eq_take_append_cons_drop, if_pos hi]
  have e3 : (elems enc (xs.take i)).length = i * k := by rw [elems_len hk, List.length_take, Nat.min_eq_left (by omega)]
  rw [e2, elems_append, elems_cons, e1]
  unfold putAt
  rw [← e3, List.take_left, ← List.drop_drop, List.drop_left, hk]
  congr 2
  rw [← hk (nth xs i), List.drop_left]
theorem wr_elems {f b : Nat} {α : Type} [Inhabited α] {enc : α → List Value} {xs : List α} {i : Nat} {y : α} (hb : h[b]? = some (.cells (elems enc xs) e)) (hk : ∀ x, (enc x).length = k) (hf : f ≤ b) (hi : i < xs.length) (h1 : (enc y).all Go.AM.one = true) :
    wr ⟨f, []⟩ h b (i * k) (enc y) = some (h.setIfInBounds b (.cells (elems enc (xs.set i y)) e)) := by
  have hl := elems_len hk xs
  have hsub : i * k + k ≤ xs.length * k := by
    calc i * k + k = (i + 1) * k := by rw [Nat.add_mul, Nat.one_mul]
      _ ≤ xs.length * k := Nat.mul_le_mul_right k hi
  rw [wr_def hb, if_pos ⟨hf, h1, by rw [hk, hl]; exact hsub⟩, putAt_elems hk hi]
theorem nth_set {α : Type} [Inhabited α] {xs : List α} {i t : Nat} {y : α} (ht : t ≠ i) : nth (xs.set i y) t = nth xs t := by
  unfold nth; simp only [List.getD_eq_getElem?_getD]; rw [List.getElem?_set_ne (fun q => ht q.symm)]
theorem nth_set_same {α : Type} [Inhabited α] {xs : List α} {i : Nat} {y : α} (hi : i < xs.length) : nth (xs.set i y) i = y := nth_of (List.getElem?_set_self hi)
theorem take_set {α : Type} {xs : List α} {i : Nat} {y : α} (hi : i < xs.length) : (xs.set i y).take (i + 1) = xs.take i ++ [y] := by
  rw [List.set_eq_take_append_cons_drop, if_pos hi, List.take_append]
  simp [List.length_take, Nat.min_eq_left (Nat.le_of_lt hi)]
  exact List.take_of_length_le (by simp; omega)
theorem slV_lo {b o n c : Nat} {q : IntKind} {j : Int} (hb : h[b]? = some (.cells l e)) (h0 : 0 ≤ j) (h1 : j < c) (h2 : j ≤ n) : sliceV h e k (.slice (some ⟨b, o, none⟩) n c) (some (.int q j)) none none = some (.slice (some ⟨b, o + j.toNat * k, none⟩) (n - j.toNat) (c - j.toNat)) := by
  simp only [sliceV, Go.AM.bound, Option.bind_some, hb]
  rw [if_pos ⟨h0, h2⟩]
  simp only [Option.bind_some, if_true]
  rw [if_neg (by omega), addr_add]
theorem slV_hi {b o n c : Nat} {q : IntKind} {j : Int} (hb : h[b]? = some (.cells l e)) (h0 : 0 ≤ j) (h1 : j ≤ c) : sliceV h e k (.slice (some ⟨b, o, none⟩) n c) none (some (.int q j)) none = some (.slice (some ⟨b, o, none⟩) j.toNat c) := by
  simp only [sliceV, Go.AM.bound, Option.bind_some, hb]
  rw [if_pos ⟨h0, h1⟩]
  simp only [Option.bind_some, if_true, Nat.zero_mul, addr_add, Nat.add_zero, Nat.sub_zero, ite_self]
theorem clear_s {f b o n c : Nat} {z : List Value} (hb : h[b]? = some (.cells l e)) (hf : f ≤ b) (hn : 0 < n) (hz : z.all Go.AM.one = true) (hl : o + n * z.length ≤ l.length) : aClear ⟨f, []⟩ h z (.slice (some ⟨b, o, none⟩) n c) = some (.tuple #[], h.setIfInBounds b (.cells (putAt l o (List.replicate n z).flatten) e)) := by
  obtain ⟨m, rfl⟩ : ∃ m, n = m + 1 := ⟨n - 1, by omega⟩
  have h1 : (List.replicate (m + 1) z).flatten.all Go.AM.one = true := by
    rw [List.all_flatten, List.all_eq_true]; intro x hx; rw [List.eq_of_mem_replicate hx]; exact hz
  have h2 : o + (List.replicate (m + 1) z).flatten.length ≤ l.length := by simpa using hl
  have h3 := wr_def (f := f) (off := o) (vs := (List.replicate (m + 1) z).flatten) hb
  rw [if_pos ⟨hf, h1, h2⟩] at h3
  simp only [aClear, Option.isSome_none, Bool.false_eq_true, if_false, h3, Option.map_some]
structure New (g : Nat) (h : Heap) (e k : Nat) (w : Value) (l : List Value) : Prop where
  ex : (l = [] ∧ w = .slice none 0 0) ∨ ∃ b n c r, w = .slice (some ⟨b, 0, none⟩) n c ∧ n ≤ c ∧ n * k = l.length ∧ h[b]? = some (.cells (l ++ r) e) ∧ g ≤ b ∧ ∀ v ∈ l ++ r, ∃ q m, v = .int q m
theorem Own.new (o : Own g h e k w l) (hi : ∀ v ∈ l, ∃ q m, v = .int q m) : New g h e k w l := by
  refine ⟨?_⟩
  rcases o.ex with q | ⟨_, b, n, q1, q2, q3, q4⟩
  · exact .inl q
  · exact .inr ⟨b, n, n, [], q1, Nat.le_refl _, q2, by simpa using q3, q4, by simpa using hi⟩
theorem New.row {α : Type} {enc : α → List Value} {xs : List α} (o : New g h e k w (elems enc xs)) (hk : ∀ x, (enc x).length = k) (h0 : 0 < k) : Row h e k w xs.length (elems enc xs) := by
  rcases o.ex with ⟨q1, q2⟩ | ⟨b, n, c, r, q1, qc, q2, q3, q4, q5⟩
  · have := elems_len hk xs
    rw [q1] at this
    have hx : xs.length = 0 := by
      rcases Nat.mul_eq_zero.1 this.symm with q | q
      · exact q
      · omega
    rw [hx, q1, q2]; exact ⟨.inl ⟨rfl, rfl, rfl⟩⟩
  · have hn : n = xs.length := Nat.eq_of_mul_eq_mul_right h0 (q2.trans (elems_len hk xs))
    subst hn
    refine ⟨.inr ⟨b, 0, c, q1, qc, (Array.getElem?_eq_some_iff.1 q3).1, .inr ⟨_, q3, ?_⟩⟩⟩
    unfold grab; rw [if_pos (by rw [List.length_append]; omega), q2]; simp
theorem New.low {h' : Heap} {f : Nat} (o : New g h e k w l) (hl : Low f h h') (hf : h.size ≤ f) : New g h' e k w l := by
  refine ⟨?_⟩
  rcases o.ex with q | ⟨b, n, c, r, q1, qc, q2, q3, q4, q5⟩
  · exact .inl q
  · exact .inr ⟨b, n, c, r, q1, qc, q2, by rw [hl.2 b (by have := (Array.getElem?_eq_some_iff.1 q3).1; omega)]; exact q3, q4, q5⟩
theorem New.weak {g' : Nat} (o : New g h e k w l) (hg : g' ≤ g) : New g' h e k w l := by
  refine ⟨?_⟩
  rcases o.ex with q | ⟨b, n, c, r, q1, qc, q2, q3, q4, q5⟩
  · exact .inl q
  · exact .inr ⟨b, n, c, r, q1, qc, q2, q3, by omega, q5⟩
theorem New.fin {h0 : Heap} (o : New h0.size h e k w l) : ∃ w' h', finish .pure h0 h w = some (w', h') ∧ New h0.size h' e k w' l ∧ Low h0.size h0 h' := by
  rcases o.ex with ⟨q1, q2⟩ | ⟨b, n, c, r, q1, qc, q2, q3, q4, q5⟩
  · exact ⟨w, h0, by rw [q2]; exact finish_pure rfl, ⟨.inl ⟨q1, q2⟩⟩, .refl _ _⟩
  · refine ⟨_, _, by rw [q1]; exact finish_own q4 q3 (all_below_ints q5), ⟨.inr ⟨h0.size, n, c, r, rfl, qc, q2, by simp, Nat.le_refl _, q5⟩⟩, .push (Nat.le_refl _) _⟩
section
variable {X : Tab} {f : Nat} {en : Env} {K : List Frame} {is : List AIns} {d : Option Nat}
theorem RM_by {κ : Ctx} {o : Option (Value × Heap)} {w' : Value} {h' : Heap} {p : Ph (is, K)} (e : o = some (w', h')) (q : RIs X κ is (put en d w') h' K ⟨⟩) : RM X κ o d is en K p := ⟨(w', h'), e, q⟩
theorem RM_app1 {b by_ n : Nat} {cs : List Value} {p : Ph (is, K)} (o : Own g h e k w l) (hf : f ≤ g) (hg : g ≤ h.size) (hn : n * k = l.length) (hk : cs.length = k) (h0 : 0 < k) (h1 : cs.all Go.AM.one = true) (hs : (n + 1) * by_ ≤ 140737488355328) (hs2 : n + 1 ≤ 35184372088832)
    (q : ∀ w' h', Own g h' e k w' (l ++ cs) → Low g h h' → RIs X ⟨f, []⟩ is (put en d w') h' K ⟨⟩) (hb : b = h.size := by simp) :
    RM X ⟨f, []⟩ (aAppend ⟨f, []⟩ (h.push (.cells cs e)) e k by_ w (.slice (some ⟨b, 0, none⟩) 1 1)) d is en K p := by
  subst hb
  have hsrc : srcCells (h.push (.cells cs e)) k (.slice (some ⟨h.size, 0, none⟩) 1 1) = some (1, cs) := by
    unfold srcCells
    simp only [Option.isSome_none, Bool.false_eq_true, if_false, Nat.one_mul]
    rw [if_neg (by omega), cellsAt_push, if_pos rfl]
    simp only [cellsOfO_cells, Option.bind_some, grab]
    rw [if_pos (by omega), ← hk]; simp
  obtain ⟨w', h', q1, q2, q3⟩ := (o.push (.cells cs e)).app (f := f) (n := n) (m := 1) (by_ := by_) h0 hf (by simp; omega) hsrc (by omega) h1 hn hs hs2
  exact RM_by q1 (q w' h' q2 ((Low.push hg _).trans q3))
theorem RM_appm {b by_ n m : Nat} {cs : List Value} {p : Ph (is, K)} (o : Own g h e k w l) (hf : f ≤ g) (hg : g ≤ h.size) (hn : n * k = l.length) (hm : 0 < m) (hk : cs.length = m * k) (h0 : 0 < k) (h1 : cs.all Go.AM.one = true) (hs : (n + m) * by_ ≤ 140737488355328) (hs2 : n + m ≤ 35184372088832)
    (q : ∀ w' h', Own g h' e k w' (l ++ cs) → Low g h h' → RIs X ⟨f, []⟩ is (put en d w') h' K ⟨⟩) (hb : b = h.size := by simp) :
    RM X ⟨f, []⟩ (aAppend ⟨f, []⟩ (h.push (.cells cs e)) e k by_ w (.slice (some ⟨b, 0, none⟩) m m)) d is en K p := by
  subst hb
  have hpos : 0 < m * k := Nat.mul_pos hm h0
  have hsrc : srcCells (h.push (.cells cs e)) k (.slice (some ⟨h.size, 0, none⟩) m m) = some (m, cs) := by
    unfold srcCells
    simp only [Option.isSome_none, Bool.false_eq_true, if_false]
    rw [if_neg (by omega), cellsAt_push, if_pos rfl]
    simp only [cellsOfO_cells, Option.bind_some, grab]
    rw [if_pos (by omega), ← hk]; simp
  obtain ⟨w', h', q1, q2, q3⟩ := (o.push (.cells cs e)).app (f := f) (n := n) (m := m) (by_ := by_) h0 hf (by simp; omega) hsrc hk h1 hn hs hs2
  exact RM_by q1 (q w' h' q2 ((Low.push hg _).trans q3))
theorem RM_app1k {b by_ n : Nat} {cs : List Value} {p : Ph (is, K)} (o : Own g h e k w l) (hf : f ≤ g) (hg : g ≤ h.size) (hn : n * k = l.length) (hk : cs.length = k) (h0 : 0 < k) (h1 : cs.all Go.AM.one = true) (hs : (n + 1) * by_ ≤ 140737488355328) (hs2 : n + 1 ≤ 35184372088832)
    (q : ∀ w' h', Own g h' e k w' (l ++ cs) → KeepB h h' (blk w) → (∃ b, blk w' = some b ∧ h.size ≤ b) → RIs X ⟨f, []⟩ is (put en d w') h' K ⟨⟩) (hb : b = h.size := by simp) :
    RM X ⟨f, []⟩ (aAppend ⟨f, []⟩ (h.push (.cells cs e)) e k by_ w (.slice (some ⟨b, 0, none⟩) 1 1)) d is en K p := by
  subst hb
  have hsrc : srcCells (h.push (.cells cs e)) k (.slice (some ⟨h.size, 0, none⟩) 1 1) = some (1, cs) := by
    unfold srcCells
    simp only [Option.isSome_none, Bool.false_eq_true, if_false, Nat.one_mul]
    rw [if_neg (by omega), cellsAt_push, if_pos rfl]
    simp only [cellsOfO_cells, Option.bind_some, grab]
    rw [if_pos (by omega), ← hk]; simp
  have o' := o.push (.cells cs e)
  obtain ⟨v', h', q1, q2, q3, q4⟩ := append_buf (f := f) (by_ := by_) h0 (by simp; omega) (o'.buf.weak hf) hsrc (by omega) hn o.one h1 hs hs2 (by omega)
  have hpos : 0 < (l ++ cs).length := by rw [List.length_append]; omega
  have q3' : KeepB h h' (blk w) := ((KeepB.refl h _).push _).trans q3
  refine RM_by q1 (q v' h' ⟨?_, by rw [List.all_append, o.one, h1]; rfl⟩ q3' ⟨_, q4, by simp⟩)
  rcases q2 with ⟨rfl, _⟩ | ⟨b, n', rfl, a2, a3, a4⟩
  · cases q4
  · simp only [blk, Option.some.injEq] at q4; subst q4; exact .inr ⟨hpos, _, n', rfl, a2, a3, by simp; omega⟩
theorem RM_app {by_ n m : Nat} {x : Value} {l2 : List Value} {p : Ph (is, K)} (o : Own g h e k w l) (hk : 0 < k) (hf : f ≤ g) (hg : g ≤ h.size) (hx : srcCells h k x = some (m, l2)) (hl2 : l2.length = m * k) (h2 : l2.all Go.AM.one = true)
    (hn : n * k = l.length) (hs : (n + m) * by_ ≤ 140737488355328) (hs2 : n + m ≤ 35184372088832)
    (q : ∀ w' h', Own g h' e k w' (l ++ l2) → Low g h h' → RIs X ⟨f, []⟩ is (put en d w') h' K ⟨⟩) :
    RM X ⟨f, []⟩ (aAppend ⟨f, []⟩ h e k by_ w x) d is en K p := by
  obtain ⟨w', h', q1, q2, q3⟩ := o.app hk hf hg hx hl2 h2 hn hs hs2
  exact RM_by q1 (q w' h' q2 q3)
theorem RM_bapp {by_ n m : Nat} {x : Value} {l2 : List Value} {p : Ph (is, K)} (o : Buf g h e k w l) (h1 : l.all Go.AM.one = true) (hk : 0 < k) (hf : f ≤ g) (hg : g ≤ h.size) (hx : srcCells h k x = some (m, l2)) (hl2 : l2.length = m * k) (h2 : l2.all Go.AM.one = true)
    (hn : n * k = l.length) (hs : (n + m) * by_ ≤ 140737488355328) (hs2 : n + m ≤ 35184372088832)
    (q : ∀ w' h', Buf g h' e k w' (l ++ l2) → Low g h h' → RIs X ⟨f, []⟩ is (put en d w') h' K ⟨⟩) :
    RM X ⟨f, []⟩ (aAppend ⟨f, []⟩ h e k by_ w x) d is en K p := by
  obtain ⟨w', h', q1, q2, q3⟩ := o.app h1 hk hf hg hx hl2 h2 hn hs hs2
  exact RM_by q1 (q w' h' q2 q3)
theorem RM_set {α : Type} [Inhabited α] {enc : α → List Value} {xs : List α} {i : Nat} {y : α} {vs : List Value} {F : Heap → Value × Heap} {p : Ph (is, K)} (o : Own g h e k w (elems enc xs)) (hk : ∀ x, (enc x).length = k) (h0 : 0 < k) (hi : i < xs.length) (hf : f ≤ g) (hv : vs = enc y) (h1 : vs.all Go.AM.one = true)
    (q : ∀ h', Own g h' e k w (elems enc (xs.set i y)) → Low g h h' → RIs X ⟨f, []⟩ is (put en d (F h').1) (F h').2 K ⟨⟩) :
    RM X ⟨f, []⟩ ((wr ⟨f, []⟩ h (bkV w) (ofV w + i * k) vs).map F) d is en K p := by
  subst hv
  have hl := elems_len hk xs
  have hsub : i * k + k ≤ xs.length * k := by
    calc i * k + k = (i + 1) * k := by rw [Nat.add_mul, Nat.one_mul]
      _ ≤ xs.length * k := Nat.mul_le_mul_right k hi
  rcases o.ex with ⟨q1, q2⟩ | ⟨hp, b, n, rfl, q2, q3, q4⟩
  · rw [q1] at hl; simp at hl; omega
  · have hput : putAt (elems enc xs) (i * k) (enc y) = elems enc (xs.set i y) := by
      have e1 : elems enc xs = elems enc (xs.take i) ++ (enc (nth xs i) ++ elems enc (xs.drop (i + 1))) := by
        rw [← elems_cons, ← nth_drop hi, ← elems_append, List.take_append_drop]
      have e2 : xs.set i y = xs.take i ++ y :: xs.drop (i + 1) := by rw [List.set_eq_take_append_cons_drop, if_pos hi]
      have e3 : (elems enc (xs.take i)).length = i * k := by rw [elems_len hk, List.length_take, Nat.min_eq_left (by omega)]
      rw [e2, elems_append, elems_cons, e1]
      unfold putAt
      rw [← e3, List.take_left, ← List.drop_drop, List.drop_left, hk]
      congr 2
      rw [← hk (nth xs i), List.drop_left]
    have hlt := (Array.getElem?_eq_some_iff.1 q3).1
    have hw : wr ⟨f, []⟩ h b (0 + i * k) (enc y) = some (h.setIfInBounds b (.cells (elems enc (xs.set i y)) e)) := by
      rw [Nat.zero_add, wr_def q3, if_pos ⟨by omega, h1, by rw [hk, hl]; exact hsub⟩, hput]
    simp only [bkV_s, ofV_s]
    rw [hw]
    refine RM_by rfl (q _ ⟨.inr ⟨by rw [elems_len hk, List.length_set, ← hl]; exact hp, b, n, rfl, by rw [q2, elems_len hk, elems_len hk, List.length_set], by rw [Array.getElem?_setIfInBounds, if_pos rfl, if_pos hlt], q4⟩, ?_⟩ (.set q4 _))
    rw [← hput, putAt, List.all_append, List.all_append, h1]
    have := o.one
    rw [List.all_eq_true] at this
    simp only [Bool.and_eq_true, List.all_eq_true, Bool.true_and]
    exact ⟨fun v hv => this v (List.mem_of_mem_take hv), fun v hv => this v (List.mem_of_mem_drop hv)⟩
theorem fin_pushR {α : Type} {enc : α → List Value} {xs : List α} {h0 : Heap} (hs : h0.size ≤ h.size) (hk : ∀ x, (enc x).length = k) (h0k : 0 < k) (hl : (elems enc xs).all (vBelow h0.size) = true) :
    finish .pure h0 (pushR h e (elems enc xs)) (rowV h.size xs.length) = some (rowV h0.size xs.length, pushR h0 e (elems enc xs)) := by
  have hlen := elems_len hk xs
  by_cases hx : xs.length = 0
  · have : elems enc xs = [] := List.eq_nil_of_length_eq_zero (by rw [hlen, hx]; simp)
    unfold rowV pushR
    rw [if_pos hx, if_pos this, if_pos hx, if_pos this]
    exact finish_pure rfl
  · have hpos : 0 < (elems enc xs).length := by rw [hlen]; exact Nat.mul_pos (by omega) h0k
    have : elems enc xs ≠ [] := by intro q; rw [q] at hpos; simp at hpos
    unfold rowV pushR
    rw [if_neg hx, if_neg this, if_neg hx, if_neg this]
    exact finish_own hs (by simp) hl
theorem RQ_rowV {α : Type} {enc : α → List Value} {xs : List α} {h0 : Heap} {R : Value → Heap → Prop} {p : Ph ([rowV h.size xs.length], R)} (hk : ∀ x, (enc x).length = k) (hi : ∀ x, ∀ v ∈ enc x, ∃ q m, v = .int q m) (h0k : 0 < k) (hs : h0.size ≤ h.size) :
    RQ (low2 h0.size (rowV h.size xs.length)) [rowV h.size xs.length] h0 (pushR h e (elems enc xs)) R p ↔ R (rowV h0.size xs.length) (pushR h0 e (elems enc xs)) := by
  refine RQ_fin (fin_pushR hs hk h0k ?_) (by simp)
  rw [List.all_eq_true]; intro v hv
  obtain ⟨x, _, hx⟩ := List.mem_flatMap.1 hv
  obtain ⟨q, m, rfl⟩ := hi x v hx; rfl
theorem RQ_new {h0 : Heap} {R : Value → Heap → Prop} {p : Ph ([w], R)} (o : New h0.size h e k w l) (q : ∀ w' h', New h0.size h' e k w' l → Low h0.size h0 h' → R w' h') : RQ (low2 h0.size w) [w] h0 h R p := by
  obtain ⟨w', h', a, b, c⟩ := o.fin
  exact (RQ_fin a (by simp)).2 (q w' h' b c)
theorem RQ_own {α : Type} {enc : α → List Value} {xs : List α} {h0 : Heap} {R : Value → Heap → Prop} {p : Ph ([w], R)} (o : Own h0.size h e k w (elems enc xs)) (hk : ∀ x, (enc x).length = k) (h0k : 0 < k) (hl : (elems enc xs).all (vBelow h0.size) = true)
    (q : R (rowV h0.size xs.length) (pushR h0 e (elems enc xs))) : RQ (low2 h0.size w) [w] h0 h R p := by
  have hf := o.fin hk h0k hl
  refine (RQ_fin hf (by simp)).2 q
end
end Go.AM
end
