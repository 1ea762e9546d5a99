/- WholeKept, part 1. No condition. -/
import Derived.WalkKit
import Derived.Test.YtonpakokjgloaaaGreatOx00
set_option linter.all false
section
namespace Go.Ox
open Go
structure TInf where
  desc : TypeDesc
  size : Nat
  bytes : Nat
  zero : List Value
  zv : Value
  agg : Bool
  places : List (Nat × Nat × Bool)
def aggD : TypeDesc → Bool
  | .struct _ | .array _ _ => true
  | _ => false
def cellsL : Value → List Value
  | .agg cs => cs.toList
  | v => [v]
class Tab (P : Program) where
  tab : Nat → Option TInf
  under : ∀ t i, tab t = some i → P.underlying t = some i.desc
  info : ∀ t i, tab t = some i → ∃ ti, P.info? t = some ti ∧ ti.size = i.size ∧ ti.bytes = i.bytes ∧ ∃ z, ti.zero = some z ∧ z.cells = i.zero.toArray ∧ z = i.zv
  agg : ∀ t i, tab t = some i → aggD i.desc = i.agg
  places : ∀ t i fs, tab t = some i → i.desc = .struct fs → fs.size = i.places.length ∧ ∀ (k : Nat) (f : Field), fs[k]? = some f → ∃ ti dd, P.info? f.type = some ti ∧ P.underlying f.type = some dd ∧ i.places[k]? = some (f.offset, ti.size, aggD dd)
  enters : Nat → Bool
  enter : ∀ f, enters f = true → ∃ fn, P.funcs[f]? = some fn ∧ fn.body.isNone = false ∧ (fn.name == "runtime.NumGoroutine") = false
section runs
variable {P : Program} [T : Tab P] {t : Nat} {i : TInf} (w : World)
theorem r_under (h : T.tab t = some i) : (underlying t).run P w = .ok i.desc w := by
  simp [underlying, T.under t i h]
theorem r_size (h : T.tab t = some i) : (sizeOf t).run P w = .ok i.size w := by
  obtain ⟨ti, h1, h2, _⟩ := T.info t i h
  simp [sizeOf, typeInfo, h1, h2]
theorem r_agg (h : T.tab t = some i) : (isAgg t).run P w = .ok i.agg w := by
  have ha := T.agg t i h
  simp only [isAgg, Sem.run_bind, r_under w h, Result.andThen_ok]
  rw [← ha]
  cases i.desc <;> rfl
theorem r_zero (h : T.tab t = some i) : ∃ z, (zeroValue t).run P w = .ok z w ∧ z.cells = i.zero.toArray := by
  obtain ⟨ti, h1, h2, h3, z, hz, hc, _⟩ := T.info t i h
  exact ⟨z, by simp [zeroValue, typeInfo, h1, hz], hc⟩
theorem r_zv (h : T.tab t = some i) : (zeroValue t).run P w = .ok i.zv w := by
  obtain ⟨ti, h1, h2, h3, z, hz, hc, rfl⟩ := T.info t i h
  simp [zeroValue, typeInfo, h1, hz]
end runs
def nth : List Value → Nat → Option Value
  | [], _ => none
  | a :: _, 0 => some a
  | _ :: l, n + 1 => nth l n
theorem nth_get (l : List Value) : ∀ n, nth l n = l[n]? := by
  induction l with
  | nil => intro n; cases n <;> rfl
  | cons a l ih => intro n; cases n with
    | zero => rfl
    | succ n => simp [nth, ih]
def pre : List Value → Nat → Option (List Value)
  | _, 0 => some []
  | [], _ + 1 => none
  | a :: l, n + 1 => match pre l n with
    | none => none
    | some r => some (a :: r)
def slc : List Value → Nat → Nat → Option (List Value)
  | l, 0, n => pre l n
  | [], _ + 1, _ => none
  | _ :: l, k + 1, n => slc l k n
theorem pre_spec : ∀ {l : List Value} {n : Nat} {r : List Value}, pre l n = some r → r = l.take n ∧ r.length = n := by
  intro l
  induction l with
  | nil => intro n r h; cases n with
    | zero => cases h; exact ⟨rfl, rfl⟩
    | succ n => cases h
  | cons a l ih => intro n r h; cases n with
    | zero => cases h; exact ⟨rfl, rfl⟩
    | succ n =>
      unfold pre at h
      cases hp : pre l n with
      | none => rw [hp] at h; cases h
      | some q => rw [hp] at h; cases h; obtain ⟨e, f⟩ := ih hp; exact ⟨by rw [e]; rfl, by simp [f]⟩
theorem slc_spec : ∀ {l : List Value} {k n : Nat} {r : List Value}, slc l k n = some r → r = (l.drop k).take n ∧ r.length = n := by
  intro l
  induction l with
  | nil => intro k n r h; cases k with
    | zero => exact pre_spec h
    | succ k => cases h
  | cons a l ih => intro k n r h; cases k with
    | zero => exact pre_spec h
    | succ k => exact ih h
theorem slc_get {l : List Value} {k n : Nat} {r : List Value} (h : slc l k n = some r) (j : Nat) (v : Value) (hj : r[j]? = some v) : l[k + j]? = some v := by
  obtain ⟨e, f⟩ := slc_spec h
  rw [e, List.getElem?_take] at hj
  split at hj
  · rw [List.getElem?_drop] at hj; exact hj
  · cases hj
def over : List Value → List Value → Option (List Value)
  | l, [] => some l
  | [], _ :: _ => none
  | _ :: l, v :: vs => match over l vs with
    | none => none
    | some r => some (v :: r)
def setN : List Value → Nat → List Value → Option (List Value)
  | l, 0, vs => over l vs
  | [], _ + 1, _ => none
  | a :: l, n + 1, vs => match setN l n vs with
    | none => none
    | some r => some (a :: r)
theorem over_spec : ∀ {l vs r : List Value}, over l vs = some r → r = vs ++ l.drop vs.length ∧ vs.length ≤ l.length := by
  intro l
  induction l with
  | nil => intro vs r h; cases vs with
    | nil => cases h; exact ⟨rfl, Nat.le_refl _⟩
    | cons v vs => cases h
  | cons a l ih => intro vs r h; cases vs with
    | nil => cases h; exact ⟨rfl, Nat.zero_le _⟩
    | cons v vs =>
      unfold over at h
      cases hp : over l vs with
      | none => rw [hp] at h; cases h
      | some q => rw [hp] at h; cases h; obtain ⟨e, f⟩ := ih hp; exact ⟨by rw [e]; rfl, by simpa using f⟩
theorem setN_spec : ∀ {l : List Value} {n : Nat} {vs r : List Value}, setN l n vs = some r → r = l.take n ++ vs ++ l.drop (n + vs.length) ∧ n + vs.length ≤ l.length := by
  intro l
  induction l with
  | nil => intro n vs r h; cases n with
    | zero => obtain ⟨e, f⟩ := over_spec h; exact ⟨by simpa using e, by simpa using f⟩
    | succ n => cases h
  | cons a l ih => intro n vs r h; cases n with
    | zero => obtain ⟨e, f⟩ := over_spec h; exact ⟨by simpa using e, by simpa using f⟩
    | succ n =>
      unfold setN at h
      cases hp : setN l n vs with
      | none => rw [hp] at h; cases h
      | some q =>
        rw [hp] at h; cases h; obtain ⟨e, f⟩ := ih hp
        have : n + 1 + vs.length = (n + vs.length) + 1 := by omega
        exact ⟨by rw [e, this]; rfl, by simp only [List.length_cons]; omega⟩
def cellsAt (b : Nat) (e : TypeId) (l : List Value) : Asn := pt b (.cells l.toArray e (0, 0))
theorem run_loadCells_in (P : Program) (w : World) {b e : Nat} {l : List Value} {off n : Nat} {r : List Value} (hw : w.heap[b]? = some (.cells l.toArray e (0, 0))) (h : slc l off n = some r) :
    (loadCells ⟨b, off, none⟩ n).run P w = .ok r.toArray w := by
  have := run_loadCells_list (P := P) w ⟨b, off, none⟩ r (fun j v hj => by
    rw [Addr.add_lit]
    simp only [World.cell?, hw]
    have := slc_get h j v hj
    simpa using this)
  rw [(slc_spec h).2] at this
  exact this
def cellV : List Value → Bool
  | [] => true
  | v :: vs => match v.oneCell' with
    | true => cellV vs
    | false => false
theorem cellV_spec : ∀ {l : List Value}, cellV l = true → ∀ v ∈ l, v.oneCell' = true := by
  intro l
  induction l with
  | nil => intro _ v h; cases h
  | cons a l ih =>
    intro h v hv
    unfold cellV at h
    cases ha : a.oneCell' with
    | false => rw [ha] at h; cases h
    | true => rw [ha] at h; rcases List.mem_cons.1 hv with rfl | hv
              · exact ha
              · exact ih h v hv
section ops
variable {P : Program} {N : Nat} {D : List Deferred} {env : KEnv} {S : List Asn} {Q : Post} {ops rest : List Oper}
variable {d : Tmp} {t : TypeId} {pos : String} {aft : Array Edge}
abbrev ok (N d : Nat) : Prop := Nat.ble (d + 1) N = true
theorem l_op {op : Op} {v : Value} {S' : List Asn} (hN : ok N d)
    (hrun : ∀ G F a w, Holds N G F D env S a w → ∃ w', (execOp a.eval ⟨some d, op, t, pos, aft, none⟩).run P w = .ok (.value v) w' ∧ sat G w' (S' ++ F))
    (next : TripL P N ops rest D ((d, v) :: env) S' Q) : TripL P N ops (⟨some d, op, t, pos, aft, none⟩ :: rest) D env S Q :=
  ⟨fun G F a w k => wpList_plain rfl fun K hK => by
    obtain ⟨w', hr, hs⟩ := hrun G F a w k
    unfold Oper.wp; rw [hr]
    refine hK _ _ (next.run G F _ _ ⟨?_, k.env.put ?_, k.defers, hs⟩)
    · simp only [Act.put, Array.size_setIfInBounds]; exact k.size
    · have := Nat.le_of_ble_eq_true hN; rw [k.size]; omega⟩
theorem l_op_ex {α : Type} {op : Op} {p : α → Prop} {v : α → Value} {S' : α → List Asn} (hN : ok N d)
    (hrun : ∀ G F a w, Holds N G F D env S a w → ∃ x, p x ∧ ∃ w', (execOp a.eval ⟨some d, op, t, pos, aft, none⟩).run P w = .ok (.value (v x)) w' ∧ sat G w' (S' x ++ F))
    (next : ∀ x, p x → TripL P N ops rest D ((d, v x) :: env) (S' x) Q) : TripL P N ops (⟨some d, op, t, pos, aft, none⟩ :: rest) D env S Q :=
  ⟨fun G F a w k => wpList_plain rfl fun K hK => by
    obtain ⟨x, hp, w', hr, hs⟩ := hrun G F a w k
    unfold Oper.wp; rw [hr]
    refine hK _ _ ((next x hp).run G F _ _ ⟨?_, k.env.put ?_, k.defers, hs⟩)
    · simp only [Act.put, Array.size_setIfInBounds]; exact k.size
    · have := Nat.le_of_ble_eq_true hN; rw [k.size]; omega⟩
theorem l_pure {op : Op} {v : Value} (hN : ok N d)
    (hrun : ∀ ρ : Operand → Value, (∀ x u, ev env x = some u → ρ x = u) → ∀ w, (execOp ρ ⟨some d, op, t, pos, aft, none⟩).run P w = .ok (.value v) w)
    (next : TripL P N ops rest D ((d, v) :: env) S Q) : TripL P N ops (⟨some d, op, t, pos, aft, none⟩ :: rest) D env S Q :=
  l_op hN (fun G F a w k => ⟨w, hrun a.eval (fun _ _ h => k.env.eval h) w, k.sat⟩) next
theorem l_act {op : Op} {S' : List Asn}
    (hrun : ∀ G F a w, Holds N G F D env S a w → ∃ w', (execOp a.eval ⟨none, op, t, pos, aft, none⟩).run P w = .ok .skip w' ∧ sat G w' (S' ++ F))
    (next : TripL P N ops rest D env S' Q) : TripL P N ops (⟨none, op, t, pos, aft, none⟩ :: rest) D env S Q :=
  ⟨fun G F a w k => wpList_plain rfl fun K hK => by
    obtain ⟨w', hr, hs⟩ := hrun G F a w k
    unfold Oper.wp; rw [hr]
    exact hK _ _ (next.run G F _ _ ⟨k.size, k.env, k.defers, hs⟩)⟩
def nthO : List Oper → Nat → Option Oper
  | [], _ => none
  | a :: _, 0 => some a
  | _ :: l, n + 1 => nthO l n
theorem nthO_get (l : List Oper) : ∀ n, nthO l n = l[n]? := by
  induction l with
  | nil => intro n; cases n <;> rfl
  | cons a l ih => intro n; cases n with
    | zero => rfl
    | succ n => simp [nthO, ih]
def gd (ops : List Oper) (env : KEnv) (g : Nat × Bool) : Option Bool :=
  match nthO ops g.1 with
  | some ⟨some x, _, _, _, _, _⟩ => match look env x with
    | some (.bool b) => some (Bool.beq b g.2)
    | _ => none
  | _ => none
where Bool.beq : Bool → Bool → Bool
  | true, true => true
  | false, false => true
  | _, _ => false
theorem gd_wanted {o : Oper} {g : Nat × Bool} {r : Bool} (hg : o.guard = some g) (h : gd ops env g = some r) {a : Act} (ha : Agrees a env) : Region.wanted o (yielded ops.toArray a.tmps) = r := by
  unfold gd at h
  rw [nthO_get] at h
  split at h
  · rename_i x _ _ _ _ _ ho
    split at h
    · rename_i b hb
      cases h
      have := ha x _ hb
      simp only [Region.wanted, hg, yielded, List.getElem?_toArray, ho, Option.bind_some, this]
      cases b <;> cases g.2 <;> rfl
    · cases h
  · cases h
theorem l_guard_yes {dst : Option Tmp} {op : Op} {g : Nat × Bool} (hg : gd ops env g = some true) (h : TripL P N ops (⟨dst, op, t, pos, aft, none⟩ :: rest) D env S Q) :
    TripL P N ops (⟨dst, op, t, pos, aft, some g⟩ :: rest) D env S Q :=
  ⟨fun G F a w k => by
    have := h.run G F a w k
    unfold wpList at this ⊢
    rw [gd_wanted rfl hg k.env, if_pos rfl]
    rw [if_pos (by simp [Region.wanted])] at this
    exact this⟩
theorem l_guard_no {op : Op} {g : Nat × Bool} (hN : ok N d) (hg : gd ops env g = some false) (h : TripL P N ops rest D ((d, undef) :: env) S Q) :
    TripL P N ops (⟨some d, op, t, pos, aft, some g⟩ :: rest) D env S Q :=
  ⟨fun G F a w k => by
    unfold wpList
    rw [gd_wanted rfl hg k.env]
    refine h.run G F _ _ ⟨?_, k.env.put ?_, k.defers, k.sat⟩
    · simp only [Act.put, Array.size_setIfInBounds]; exact k.size
    · have := Nat.le_of_ble_eq_true hN; rw [k.size]; omega⟩
structure QP (P : Program) (env : KEnv) (op : Op) (t : TypeId) (v : Value) : Prop where
  run : ∀ ρ : Operand → Value, (∀ x u, ev env x = some u → ρ x = u) → ∀ (w : World) (d : Tmp) (pos : String) (aft : Array Edge), (execOp ρ ⟨some d, op, t, pos, aft, none⟩).run P w = .ok (.value v) w
structure QS (P : Program) (N : Nat) (D : List Deferred) (env : KEnv) (S : List Asn) (op : Op) (t : TypeId) (v : Value) : Prop where
  run : ∀ G F a w, Holds N G F D env S a w → ∀ (d : Tmp) (pos : String) (aft : Array Edge), (execOp a.eval ⟨some d, op, t, pos, aft, none⟩).run P w = .ok (.value v) w
theorem l_qp {op : Op} {v : Value} (h : QP P env op t v) (hN : ok N d) (next : TripL P N ops rest D ((d, v) :: env) S Q) : TripL P N ops (⟨some d, op, t, pos, aft, none⟩ :: rest) D env S Q :=
  l_pure hN (fun ρ hr w => h.run ρ hr w d pos aft) next
theorem l_qs {op : Op} {v : Value} (h : QS P N D env S op t v) (hN : ok N d) (next : TripL P N ops rest D ((d, v) :: env) S Q) : TripL P N ops (⟨some d, op, t, pos, aft, none⟩ :: rest) D env S Q :=
  l_op hN (fun G F a w k => ⟨w, h.run G F a w k d pos aft, k.sat⟩) next
theorem QP.yes {op : Op} {p : Prop} [Decidable p] (h : QP P env op t (.bool (decide p))) (hp : p) : QP P env op t (.bool true) := by rwa [decide_eq_true hp] at h
theorem QP.no {op : Op} {p : Prop} [Decidable p] (h : QP P env op t (.bool (decide p))) (hp : ¬ p) : QP P env op t (.bool false) := by rwa [decide_eq_false hp] at h
theorem l_cmp {op : Op} {p : Prop} [Decidable p] (h : QP P env op t (.bool (decide p))) (hN : ok N d)
    (ht : p → TripL P N ops rest D ((d, .bool true) :: env) S Q) (hf : ¬ p → TripL P N ops rest D ((d, .bool false) :: env) S Q) : TripL P N ops (⟨some d, op, t, pos, aft, none⟩ :: rest) D env S Q := by
  by_cases hp : p
  · exact l_qp (h.yes hp) hN (ht hp)
  · exact l_qp (h.no hp) hN (hf hp)
section pure
variable {x y z : Operand} {u v : Value} {m n : Int} {k : IntKind} {xt yt : TypeId}
theorem q_move (hx : ev env x = some v)  : QP P env (.move x) t (v) := .mk fun ρ h w d pos aft => by simp [execOp, h x v hx]
theorem q_assign (hx : ev env x = some v)  : QP P env (.assign x) t (v) := .mk fun ρ h w d pos aft => by simp [execOp, h x v hx]
theorem q_pick_t (hc : ev env z = some (.bool true)) (hx : ev env x = some v)  : QP P env (.pick z x y) t (v) := .mk fun ρ h w d pos aft => by simp [execOp, h z _ hc, h x v hx, asBool]
theorem q_pick_f (hc : ev env z = some (.bool false)) (hy : ev env y = some v)  : QP P env (.pick z x y) t (v) := .mk fun ρ h w d pos aft => by simp [execOp, h z _ hc, h y v hy, asBool]
theorem q_not {b : Bool} (hx : ev env x = some (.bool b))  : QP P env (.unOp .not xt x) t (.bool (!b)) := .mk fun ρ h w d pos aft => by simp [execOp, h x _ hx, Op.unary]
theorem wrap_in (m : Int) (h0 : -9223372036854775808 ≤ m) (h1 : m ≤ 9223372036854775807) : IntKind.i64.wrap m = m := IntWalk.i64_in m ⟨h0, h1⟩
theorem q_add (hx : ev env x = some (.int .i64 m)) (hy : ev env y = some (.int .i64 n)) (h0 : -9223372036854775808 ≤ m + n) (h1 : m + n ≤ 9223372036854775807) : QP P env (.binOp .add xt x y yt) t (.int .i64 (m + n)) := .mk fun ρ h w d pos aft => by simp [execOp, h x _ hx, h y _ hy, eqGuard, binOp, Op.intArith, wrap_in _ h0 h1]
theorem q_sub (hx : ev env x = some (.int .i64 m)) (hy : ev env y = some (.int .i64 n)) (h0 : -9223372036854775808 ≤ m - n) (h1 : m - n ≤ 9223372036854775807) : QP P env (.binOp .sub xt x y yt) t (.int .i64 (m - n)) := .mk fun ρ h w d pos aft => by simp [execOp, h x _ hx, h y _ hy, eqGuard, binOp, Op.intArith, wrap_in _ h0 h1]
theorem q_mul (hx : ev env x = some (.int .i64 m)) (hy : ev env y = some (.int .i64 n)) (h0 : -9223372036854775808 ≤ m * n) (h1 : m * n ≤ 9223372036854775807) : QP P env (.binOp .mul xt x y yt) t (.int .i64 (m * n)) := .mk fun ρ h w d pos aft => by simp [execOp, h x _ hx, h y _ hy, eqGuard, binOp, Op.intArith, wrap_in _ h0 h1]
theorem q_quo (hx : ev env x = some (.int .i64 m)) (hy : ev env y = some (.int .i64 n)) (h0 : 0 ≤ m) (h1 : m ≤ 9223372036854775807) (h2 : 0 < n) : QP P env (.binOp .quo xt x y yt) t (.int .i64 (m / n)) := .mk fun ρ h w d pos aft => by
    have hn : n ≠ 0 := by omega
    have h3 : 0 ≤ m / n := Int.ediv_nonneg h0 (by omega)
    have h4 : m / n ≤ m := Int.ediv_le_self n h0
    have hw := wrap_in (m / n) (by omega) (by omega)
    simp [execOp, h x _ hx, h y _ hy, eqGuard, binOp, Op.intDiv, hn, Int.tdiv_eq_ediv_of_nonneg h0, hw]
theorem q_rem (hx : ev env x = some (.int .i64 m)) (hy : ev env y = some (.int .i64 n)) (h0 : 0 ≤ m) (h2 : 0 < n) : QP P env (.binOp .rem xt x y yt) t (.int .i64 (m % n)) := .mk fun ρ h w d pos aft => by
    have hn : n ≠ 0 := by omega
    simp [execOp, h x _ hx, h y _ hy, eqGuard, binOp, Op.intDiv, hn, Int.tmod_eq_emod_of_nonneg h0]
theorem q_lss (hx : ev env x = some (.int k m)) (hy : ev env y = some (.int k n)) : QP P env (.binOp .lss xt x y yt) t (.bool (decide (m < n))) := .mk fun ρ h w d pos aft => by simp [execOp, h x _ hx, h y _ hy, eqGuard, binOp, Op.intCmp]
theorem q_leq (hx : ev env x = some (.int k m)) (hy : ev env y = some (.int k n)) : QP P env (.binOp .leq xt x y yt) t (.bool (decide (m ≤ n))) := .mk fun ρ h w d pos aft => by simp [execOp, h x _ hx, h y _ hy, eqGuard, binOp, Op.intCmp]
theorem q_gtr (hx : ev env x = some (.int k m)) (hy : ev env y = some (.int k n)) : QP P env (.binOp .gtr xt x y yt) t (.bool (decide (n < m))) := .mk fun ρ h w d pos aft => by simp [execOp, h x _ hx, h y _ hy, eqGuard, binOp, Op.intCmp]
theorem q_geq (hx : ev env x = some (.int k m)) (hy : ev env y = some (.int k n)) : QP P env (.binOp .geq xt x y yt) t (.bool (decide (n ≤ m))) := .mk fun ρ h w d pos aft => by simp [execOp, h x _ hx, h y _ hy, eqGuard, binOp, Op.intCmp]
theorem q_eql (hx : ev env x = some (.int k m)) (hy : ev env y = some (.int k n)) : QP P env (.binOp .eql xt x y yt) t (.bool (decide (m = n))) := .mk fun ρ h w d pos aft => by simp [execOp, h x _ hx, h y _ hy, eqGuard, binOp, Op.intCmp]; by_cases e : m = n <;> simp [e]
theorem q_neq (hx : ev env x = some (.int k m)) (hy : ev env y = some (.int k n)) : QP P env (.binOp .neq xt x y yt) t (.bool (decide (¬ m = n))) := .mk fun ρ h w d pos aft => by
    simp only [execOp, h x _ hx, h y _ hy, eqGuard, binOp, Op.intCmp, Sem.run_bind, Result.andThen_ok, Sem.run_pure]
    by_cases e : m = n <;> simp [e, bne]
end pure
end ops
end Go.Ox
end
