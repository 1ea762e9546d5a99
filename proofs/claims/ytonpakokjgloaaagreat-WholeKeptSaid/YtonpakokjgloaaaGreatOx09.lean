/- WholeKept, part 9. No condition. -/
import Derived.Test.YtonpakokjgloaaaGreatOx08
set_option linter.all false
section
namespace Go.Ox
open Go
inductive CAt : List Asn → Asn → Asn → List Asn → Prop where
 | here {A B : Asn} {S : List Asn} : CAt (A :: S) A B (B :: S)
 | there {A B C : Asn} {S S' : List Asn} : CAt S A B S' → CAt (C :: S) A B (C :: S')
theorem CAt.at {S S' : List Asn} {A B : Asn} (h : CAt S A B S') : ∃ i, at? S i = some A ∧ put S i B = S' := by
 induction h with
 | here => exact ⟨0, rfl, rfl⟩
 | there _ ih => obtain ⟨i, h1, h2⟩ := ih; exact ⟨i + 1, h1, by simp [put, h2]⟩
inductive Hole : List Asn → Asn → (Asn → List Asn) → Prop where
 | here {A : Asn} {S : List Asn} : Hole (A :: S) A (fun B => B :: S)
 | there {A C : Asn} {S : List Asn} {f : Asn → List Asn} : Hole S A f → Hole (C :: S) A (fun B => C :: f B)
theorem Hole.at {S : List Asn} {A : Asn} {f : Asn → List Asn} (h : Hole S A f) : ∃ i, at? S i = some A ∧ ∀ B, put S i B = f B := by
 induction h with
 | here => exact ⟨0, rfl, fun _ => rfl⟩
 | there _ ih => obtain ⟨i, h1, h2⟩ := ih; exact ⟨i + 1, h1, fun B => by simp [put, h2]⟩
inductive Rem : List Asn → Asn → List Asn → Prop where
 | here {A : Asn} {S : List Asn} : Rem (A :: S) A S
 | there {A C : Asn} {S S' : List Asn} : Rem S A S' → Rem (C :: S) A (C :: S')
theorem Rem.perm {S S' : List Asn} {A : Asn} (h : Rem S A S') : S.Perm (A :: S') := by
 induction h with
 | here => exact .refl _
 | there _ ih => exact (ih.cons _).trans (.swap _ _ _)
inductive Pick : List Asn → List Asn → List Asn → Prop where
 | nil {S : List Asn} : Pick S [] S
 | cons {A : Asn} {S S1 Pre R : List Asn} : Rem S A S1 → Pick S1 Pre R → Pick S (A :: Pre) R
theorem Pick.perm {S Pre R : List Asn} (h : Pick S Pre R) : S.Perm (Pre ++ R) := by
 induction h with
 | nil => exact .refl _
 | cons h _ ih => exact h.perm.trans (ih.cons _)
theorem Ent.pick {S Pre R : List Asn} (h : Pick S Pre R) : Ent S Pre := (Ent.perm h.perm).trans (Ent.left _ _)
theorem Ent.close {A : Asn} {S L R : List Asn} (hA : ∀ h, star L h → A h) (hp : Pick S L R) : Ent S (A :: R) := (Ent.perm hp.perm).trans (Ent.fold hA)
def tell : List Asn → Option (List Asn)
 | [] => some []
 | A :: S => match tell S with
  | none => none
  | some r => some (A :: r)
theorem tell_eq : ∀ {S S' : List Asn}, tell S = some S' → S = S' := by
 intro S
 induction S with
 | nil => intro S' h; cases h; rfl
 | cons A S ih =>
  intro S' h
  unfold tell at h
  cases ht : tell S with
  | none => rw [ht] at h; cases h
  | some r => rw [ht] at h; cases h; rw [ih ht]
def tellE : KEnv → List Nat → Option KEnv
 | _, [] => some []
 | e, t :: ts => match look e t with
  | none => tellE e ts
  | some v => match tellE e ts with
   | none => none
   | some r => some ((t, v) :: r)
theorem tellE_less {e : KEnv} : ∀ {ts : List Nat} {e' : KEnv}, tellE e ts = some e' → Less e' e := by
 intro ts
 induction ts with
 | nil => intro e' h; cases h; intro t v q; cases q
 | cons t ts ih =>
  intro e' h
  unfold tellE at h
  cases ht : look e t with
  | none => rw [ht] at h; exact ih h
  | some u =>
   rw [ht] at h; simp only at h
   cases hr : tellE e ts with
   | none => rw [hr] at h; cases h
   | some r =>
    rw [hr] at h; cases h
    intro x v q
    unfold look at q
    cases hk : Nat.beq t x with
    | true => rw [hk] at q; cases q; have := Nat.eq_of_beq_eq_true hk; subst this; exact ht
    | false => rw [hk] at q; exact ih hr x v q
theorem own_rds {S S' : List Asn} {a : Option Addr} {n c e z : Nat} {els : List (List Value)} (h : CAt S (own a n c e z els) (own a n c e z els) S') : Rds S a n z els := by
 obtain ⟨i, hi, _⟩ := h.at; exact Rds.own i hi
theorem flatten_set {z : Nat} : ∀ {els : List (List Value)} (_ : ∀ x ∈ els, x.length = z) {k f : Nat} {r r' vs : List Value}, els[k]? = some r → setN r f vs = some r' →
  (els.set k r').flatten = els.flatten.take (k * z + f) ++ vs ++ els.flatten.drop (k * z + f + vs.length) ∧ k * z + f + vs.length ≤ els.flatten.length := by
 intro els
 induction els with
 | nil => intro _ k f r r' vs h; simp at h
 | cons a l ih =>
  intro hz k f r r' vs hk hs
  have ha : a.length = z := hz a (List.mem_cons_self ..)
  cases k with
  | zero =>
   simp at hk; subst hk
   obtain ⟨e1, e2⟩ := setN_spec hs
   refine ⟨?_, by simp only [Nat.zero_mul, Nat.zero_add, List.flatten_cons, List.length_append]; omega⟩
   simp only [List.set_cons_zero, List.flatten_cons, Nat.zero_mul, Nat.zero_add]
   rw [e1, List.take_append_of_le_length (by omega), List.drop_append_of_le_length (by omega)]
   simp
  | succ k =>
   obtain ⟨e1, e2⟩ := ih (fun x hx => hz x (List.mem_cons_of_mem _ hx)) (k := k) (by simpa using hk) hs
   have h1 : (k + 1) * z + f = a.length + (k * z + f) := by rw [ha, Nat.add_mul]; omega
   refine ⟨?_, by simp only [List.flatten_cons, List.length_append, h1]; omega⟩
   simp only [List.set_cons_succ, List.flatten_cons]
   rw [e1, h1, List.take_length_add_append, show a.length + (k * z + f) + vs.length = a.length + (k * z + f + vs.length) from by omega, List.drop_length_add_append]
   simp
theorem Rds.up {S R : List Asn} {A : Asn} {a : Option Addr} {m z : Nat} {els : List (List Value)} (h : Rds [A] a m z els) (hp : Pick S [A] R) : Rds S a m z els := h.ent (Ent.pick hp)
theorem Rds.some {A : Asn} {S : List Asn} {a : Option Addr} {m z : Nat} {els : List (List Value)} (h : Rds [A] a m z els) (hm : m ≠ 0) : ∀ x, star (A :: S) x → ∃ b off, a = Option.some ⟨b, off, none⟩ := fun x hs => by
 obtain ⟨_, _, h3⟩ := h x ((Ent.left [A] S) x hs)
 rcases h3 with h3 | ⟨b, off, _, _, _, ha, _⟩
 ·exact absurd h3 hm
 ·exact ⟨b, off, ha⟩
section ops
variable {P : Program} {N : Nat} {D : List Deferred} {env : KEnv} {S S' : List Asn} {Q : Post} {ops rest : List Oper}
variable {d : Tmp} {t : TypeId} {pos : String} {aft : Array Edge} {cd : Code}
variable {x y z : Operand} {v : Value} {xt : TypeId} {b off e n c m c2 zz : Nat} {a a2 : Option Addr} {els ys : List (List Value)} {l r : List Value}
theorem l_tell (h : tell S = some S') (k : TripL P N ops rest D env S' Q) : TripL P N ops rest D env S Q := by rw [tell_eq h]; exact k
theorem t_tell (h : tell S = some S') (k : Trip P N cd D env S' Q) : Trip P N cd D env S Q := by rw [tell_eq h]; exact k
theorem l_same (S' : List Asn) (h : S = S') (k : TripL P N ops rest D env S' Q) : TripL P N ops rest D env S Q := by rw [h]; exact k
theorem t_same (S' : List Asn) (h : S = S') (k : Trip P N cd D env S' Q) : Trip P N cd D env S Q := by rw [h]; exact k
theorem l_slots {env' : KEnv} (ts : List Nat) (h : tellE env ts = some env') (k : TripL P N ops rest D env' S Q) : TripL P N ops rest D env S Q := l_weaken (tellE_less h) (Ent.refl S) k
theorem t_slots {env' : KEnv} (ts : List Nat) (h : tellE env ts = some env') (k : Trip P N cd D env' S Q) : Trip P N cd D env S Q := t_weaken (tellE_less h) (Ent.refl S) k
theorem t_open {α : Type} {A : Asn} {p : α → Prop} {L : α → List Asn} {R : List Asn} (hA : ∀ h, A h → ∃ x, p x ∧ star (L x) h) (hr : Rem S A R) (k : ∀ x, p x → Trip P N cd D env (L x ++ R) Q) : Trip P N cd D env S Q :=
 t_ent (Ent.perm hr.perm) (t_ex 0 rfl hA k)
theorem l_open {α : Type} {A : Asn} {p : α → Prop} {L : α → List Asn} {R : List Asn} (hA : ∀ h, A h → ∃ x, p x ∧ star (L x) h) (hr : Rem S A R) (k : ∀ x, p x → TripL P N ops rest D env (L x ++ R) Q) : TripL P N ops rest D env S Q :=
 l_ent (Ent.perm hr.perm) (l_ex 0 rfl hA k)
theorem l_close {A : Asn} {L R : List Asn} (hA : ∀ h, star L h → A h) (hp : Pick S L R) (k : TripL P N ops rest D env (A :: R) Q) : TripL P N ops rest D env S Q :=
 l_ent ((Ent.perm hp.perm).trans (Ent.fold hA)) k
theorem d_cmp {lo : List Oper} {i : Nat} {pl : Plan} {op : Op} {p : Prop} [Decidable p] (hi : nthO lo i = some ⟨some d, op, t, pos, aft, none⟩) (h : QP P env op t (.bool (decide p))) (hN : ok N d)
  (ht : p → TD P N lo pl D ((d, .bool true) :: env) S Q) (hf : ¬ p → TD P N lo pl D ((d, .bool false) :: env) S Q) : TD P N lo (.eval i true pl) D env S Q := by
 by_cases hp : p
 ·exact d_qp hi (h.yes hp) hN (ht hp)
 ·exact d_qp hi (h.no hp) hN (hf hp)
theorem d_gcmp {lo : List Oper} {i : Nat} {pl : Plan} {op : Op} {p : Prop} [Decidable p] {g : Nat × Bool} (hi : nthO lo i = some ⟨some d, op, t, pos, aft, some g⟩) (hg : gd lo env g = some true) (h : QP P env op t (.bool (decide p))) (hN : ok N d)
  (ht : p → TD P N lo pl D ((d, .bool true) :: env) S Q) (hf : ¬ p → TD P N lo pl D ((d, .bool false) :: env) S Q) : TD P N lo (.eval i true pl) D env S Q := by
 by_cases hp : p
 ·exact d_gqp hi hg (h.yes hp) hN (ht hp)
 ·exact d_gqp hi hg (h.no hp) hN (hf hp)
theorem p_ret {next : List Deferred → KEnv → List Asn → Prop} (h : Q .ret D env S) : thenP next Q .ret D env S := h
theorem pb_ret {id : Nat} (h : Q .ret D env S) : blockP id Q .ret D env S := h
theorem n_eff {lo : List Oper} {rs : List Nat} {next : Plan} (h : rechs P N lo D env S rs) (k : TD P N lo next D env S Q) : onlyN (fun D env S => rechs P N lo D env S rs ∧ TD P N lo next D env S Q) .normal D env S := ⟨h, k⟩
variable [T : Tab P] {ti ei : TInf}
theorem c_load (hx : ev env x = some (.pointer (some ⟨b, off, none⟩))) (hc : CAt S (cellsAt b e l) (cellsAt b e l) S') (hT : T.tab xt = some ti) (ha : ti.agg = false) (hv : nth l off = some v) : QS P N D env S (.load xt x) t v := by
 obtain ⟨i, hi, _⟩ := hc.at; exact q_load i hx hi hT ha hv
theorem c_loadA (hx : ev env x = some (.pointer (some ⟨b, off, none⟩))) (hc : CAt S (cellsAt b e l) (cellsAt b e l) S') (hT : T.tab xt = some ti) (ha : ti.agg = true) (hv : slc l off ti.size = some r) : QS P N D env S (.load xt x) t (.agg r.toArray) := by
 obtain ⟨i, hi, _⟩ := hc.at; exact q_loadA i hx hi hT ha hv
theorem c_store (hx : ev env x = some (.pointer (some ⟨b, off, none⟩))) (hy : ev env y = some v) (hc : CAt S (cellsAt b e l) (cellsAt b e r) S') (hT : T.tab xt = some ti) (hz : Nat.beq (cellsL v).length ti.size = true) (hcv : cellV (cellsL v) = true) (hr : setN l off (cellsL v) = some r)
  (next : TripL P N ops rest D env S' Q) : TripL P N ops (⟨none, .store xt x y, t, pos, aft, none⟩ :: rest) D env S Q := by
 obtain ⟨i, hi, rfl⟩ := hc.at; exact o_store i hx hi hy hT hz hcv hr next
theorem c_append {f : Asn → List Asn} (hx : ev env x = some (.slice a n c)) (hy : ev env y = some (.slice a2 m c2)) (hc : Hole S (own a n c e zz els) f) (hr : Rds S a2 m zz ys) (hT : T.tab xt = some ti) (hd : ti.desc = .slice e) (hE : T.tab e = some ei) (hz : ei.size = zz) (hzl : ei.zero.length = zz)
  (hb : (n + m) * ei.bytes ≤ 140737488355328) (hm : n + m ≤ 4611686018427387904) (hN : ok N d)
  (next : ∀ a' c', TripL P N ops rest D ((d, .slice a' (n + m) c') :: env) (f (own a' (n + m) c' e zz (els ++ ys))) Q) : TripL P N ops (⟨some d, .call ⟨.builtin .append, #[x, y], #[xt, xt]⟩, t, pos, aft, none⟩ :: rest) D env S Q := by
 obtain ⟨i, hi, hp⟩ := hc.at
 exact o_append i hx hy hi hr hT hd hE hz hzl hb hm hN fun a' c' => by rw [hp]; exact next a' c'
theorem c_storeOwn {k o f nn cc : Nat} {r r' : List Value} {fS : Asn → List Asn} (hx : ev env x = some (.pointer (some ⟨b, o, none⟩))) (hy : ev env y = some v) (hc : Hole S (own (some ⟨b, 0, none⟩) nn cc e zz els) fS) (hT : T.tab xt = some ti) (hz : Nat.beq (cellsL v).length ti.size = true) (hcv : cellV (cellsL v) = true)
  (ho : o = k * zz + f) (hk : els[k]? = some r) (hr : setN r f (cellsL v) = some r')
  (next : TripL P N ops rest D env (fS (own (some ⟨b, 0, none⟩) nn cc e zz (els.set k r'))) Q) : TripL P N ops (⟨none, .store xt x y, t, pos, aft, none⟩ :: rest) D env S Q := by
 obtain ⟨i, hi, hp⟩ := hc.at
 refine l_act (fun G F act w ks => ?_) next
 have hs := r_size (P := P) w hT
 obtain ⟨q1, q2, q3, q4, q5⟩ := own_cells (sat_del hi ks.sat)
 have hsz : v.cells.size = ti.size := by rw [cells_toArray]; simpa using Nat.eq_of_beq_eq_true hz
 rcases q5 with ⟨h, _⟩ | ⟨b', sp, hb', ql, kp⟩
 ·cases h
 ·cases hb'
  obtain ⟨e1, e2⟩ := flatten_set (fun x hx => (q2 x hx).1) hk hr
  have hwb : w.heap[b]? = some (.cells (els.flatten ++ sp).toArray e (0, 0)) := sat.get (S := [pt b _]) (F := del S i ++ F) (n := 0) kp rfl
  have hst := run_storeCells_at (P := P) b o e (cellsL v) 0 _ w hwb (by rw [ho]; simp only [List.size_toArray, List.length_append]; omega) (cellV_spec hcv)
  simp only [Nat.add_zero] at hst
  have hl : ((els.flatten ++ sp).take o ++ cellsL v ++ (els.flatten ++ sp).drop (o + (cellsL v).length)) = (els.set k r').flatten ++ sp := by
   rw [e1, ho, List.take_append_of_le_length (by omega), List.drop_append_of_le_length (by omega)]
   simp
  have hst' : (storeCells ⟨b, o, none⟩ (cellsL v)).run P w = .ok () (w.setRow b ((els.set k r').flatten ++ sp).toArray) := by rw [hst]; congr 2; rw [← hl]
  refine ⟨w.setRow b ((els.set k r').flatten ++ sp).toArray, ?_, ?_⟩
  ·simp [execOp, ks.env.eval hx, ks.env.eval hy, Instr.storeAt, Instr.sureAddr, storeVar, hs, hsz, cells_toList, hst']
  ·have hr'v : ∀ u ∈ r', u.oneCell' = true := fun u hu => by
    obtain ⟨s1, s2⟩ := setN_spec hr
    rw [s1] at hu
    have hrv := (q2 r (List.mem_of_getElem? hk)).2
    rcases List.mem_append.1 hu with h | h
    ·rcases List.mem_append.1 h with h | h
     ·exact hrv u (List.mem_of_mem_take h)
     ·exact cellV_spec hcv u h
    ·exact hrv u (List.mem_of_mem_drop h)
   have hr'l : r'.length = zz := by
    obtain ⟨s1, s2⟩ := setN_spec hr
    rw [s1]; simp only [List.length_append, List.length_take, List.length_drop]
    have := (q2 r (List.mem_of_getElem? hk)).1
    omega
   have hnew := sat.put (S := [pt b _]) (F := del S i ++ F) (n := 0) (w' := w.setRow b ((els.set k r').flatten ++ sp).toArray) (o' := .cells ((els.set k r').flatten ++ sp).toArray e (0, 0)) kp rfl rfl rfl rfl (by
    simp only [World.setRow]
    apply Array.ext_getElem?
    intro q
    by_cases hq : q = b
    ·subst hq
     have hlt : q < w.heap.size := (Array.getElem?_eq_some_iff.1 hwb).1
     rw [Array.getElem?_setIfInBounds_self_of_lt hlt, Array.getElem?_modify, if_pos rfl, hwb]
     rfl
    ·rw [Array.getElem?_setIfInBounds_ne (fun h => hq h.symm), Array.getElem?_modify, if_neg (fun h => hq h.symm)])
   rw [← hp]
   refine sat_back hi (own_fold (sp := sp) (by simpa using q1) ?_ q3 q4 ?_ hnew)
   ·intro x hx
    rcases List.mem_or_eq_of_mem_set hx with h | h
    ·exact q2 x h
    ·rw [h]; exact ⟨hr'l, hr'v⟩
   ·rw [← ql]
    simp only [List.length_append]
    rw [e1]
    simp only [List.length_append, List.length_take, List.length_drop]
    omega
theorem c_call {f : FuncId} {xs : List Operand} {tys : Array TypeId} {vs : List Value} {Pre Rest : List Asn} {R : Value → List Asn → Prop} (hs : Spec P f vs Pre R) (ha : evs env xs = some vs) (hp : Pick S Pre Rest) (hf : T.enters f = true) (hN : ok N d)
  (next : ∀ v S', R v S' → TripL P N ops rest D ((d, v) :: env) (S' ++ Rest) Q) : TripL P N ops (⟨some d, .call ⟨.value (.func f), xs.toArray, tys⟩, t, pos, aft, none⟩ :: rest) D env S Q :=
 l_ent (Ent.perm hp.perm) (by
  refine ⟨fun G F act w k => wpList_plain rfl fun K hK => ?_⟩
  obtain ⟨fn, h1, h2, h3⟩ := T.enter f hf
  have hrun : (execOp act.eval ⟨some d, .call ⟨.value (.func f), xs.toArray, tys⟩, t, pos, aft, none⟩).run P w = .ok (.enter f vs.toArray) w := by
   have hargs := k.env.evals ha
   have h2' : ¬ fn.body = none := by intro h; simp [h] at h2
   have h3' : ¬ fn.name = "runtime.NumGoroutine" := by intro h; simp [h] at h3
   simp [execOp, resolve, Act.eval, Deferred.ofValue, invoke, callFunc, h1, h2', h3', hargs]
  unfold Oper.wp; rw [hrun]
  have hsat : sat G w (Pre ++ (Rest ++ F)) := by rw [← List.append_assoc]; exact k.sat
  refine (hs G (Rest ++ F) w hsat).mono fun e' w' ⟨v, S', he, hr, hs'⟩ => ?_
  subst he
  refine hK _ _ ((next v S' hr).run G F _ _ ⟨?_, k.env.put (ok_lt hN k.size), k.defers, by rw [List.append_assoc]; exact hs'⟩)
  rw [put_size]; exact k.size)
end ops
end Go.Ox
end
section
namespace Go.Ox
open Go
theorem xfnd {p : Prop} (h : p := by repeat (first | exact CAt.here | apply CAt.there)) : p := h
theorem xhol {p : Prop} (h : p := by repeat (first | exact Hole.here | apply Hole.there)) : p := h
theorem xrmv {p : Prop} (h : p := by repeat (first | exact Rem.here | apply Rem.there)) : p := h
theorem xpkd {p : Prop} (h : p := by repeat (first | exact Pick.nil | (apply Pick.cons; · repeat (first | exact Rem.here | apply Rem.there)))) : p := h
theorem xlss {e e' : KEnv} (h : lessL e e' := by repeat (first | exact trivial | refine And.intro rfl ?_)) : Less e' e := h.less
theorem wqp {p : Prop} (h : p := by first | (apply q_move; exact rfl) | (apply q_assign; exact rfl) | (apply q_nilCheck; exact rfl) | (apply q_fieldAddr; exact rfl; exact rfl; exact rfl; exact rfl; exact rfl) | (apply q_extract; exact rfl; exact rfl) | (apply q_len; exact rfl; exact rfl; exact rfl) | (apply q_field; exact rfl; exact rfl; exact rfl; exact rfl; exact rfl) | (apply q_fieldA; exact rfl; exact rfl; exact rfl; exact rfl; exact rfl) | (apply q_build; exact rfl; exact rfl; exact rfl; exact rfl) | (apply q_pick_t; exact rfl; exact rfl) | (apply q_pick_f; exact rfl; exact rfl) | (apply q_not; exact rfl) | (apply q_ptrNil_f; exact rfl; exact rfl; exact rfl; exact rfl) | (apply q_ptrNot_f; exact rfl; exact rfl; exact rfl; exact rfl) | (apply q_ptrNil_t; exact rfl; exact rfl; exact rfl; exact rfl) | (apply q_ptrNot_t; exact rfl; exact rfl; exact rfl; exact rfl) | (apply q_add; exact rfl; exact rfl; (first | omega | decide | (simp only []; omega)); (first | omega | decide | (simp only []; omega))) | (apply q_sub; exact rfl; exact rfl; (first | omega | decide | (simp only []; omega)); (first | omega | decide | (simp only []; omega))) | (apply q_mul; exact rfl; exact rfl; (first | omega | decide | (simp only []; omega)); (first | omega | decide | (simp only []; omega))) | (apply q_quo; exact rfl; exact rfl; (first | omega | decide | (simp only []; omega)); (first | omega | decide | (simp only []; omega)); (first | omega | decide | (simp only []; omega))) | (apply q_rem; exact rfl; exact rfl; (first | omega | decide | (simp only []; omega)); (first | omega | decide | (simp only []; omega))) | (apply q_min; exact rfl; exact rfl) | (apply q_max; exact rfl; exact rfl) | (apply q_arrSlice; exact rfl; exact rfl; exact rfl; exact rfl; exact rfl; exact rfl; exact rfl; exact rfl; exact rfl; exact rfl) | (apply q_arrAddr; exact rfl; exact rfl; exact rfl; exact rfl; exact rfl; exact rfl; (first | omega | decide | (simp only []; omega))) | (apply q_indexAddr1; exact rfl; exact rfl; exact rfl; exact rfl; exact rfl; exact rfl; (first | omega | decide | (simp only []; omega))) | (apply q_indexAddr2; exact rfl; exact rfl; exact rfl; exact rfl; exact rfl; exact rfl; (first | omega | decide | (simp only []; omega))) | (apply q_indexAddr3; exact rfl; exact rfl; exact rfl; exact rfl; exact rfl; exact rfl; (first | omega | decide | (simp only []; omega))) | (apply q_indexAddr4; exact rfl; exact rfl; exact rfl; exact rfl; exact rfl; exact rfl; (first | omega | decide | (simp only []; omega))) | (apply q_indexAddr5; exact rfl; exact rfl; exact rfl; exact rfl; exact rfl; exact rfl; (first | omega | decide | (simp only []; omega))) | (apply q_slice2b; exact rfl; exact rfl; exact rfl; exact rfl; exact rfl; exact rfl; exact rfl; (first | omega | decide | (simp only []; omega)); (first | omega | decide | (simp only []; omega)); (first | omega | decide | (simp only []; omega))) | (apply q_sliceFromb; exact rfl; exact rfl; exact rfl; exact rfl; exact rfl; exact rfl; (first | omega | decide | (simp only []; omega)); (first | omega | decide | (simp only []; omega))) | (apply q_slice2; exact rfl; exact rfl; exact rfl; exact rfl; exact rfl; exact rfl; exact rfl; (first | omega | decide | (simp only []; omega)); (first | omega | decide | (simp only []; omega))) | (apply q_sliceTo; exact rfl; exact rfl; exact rfl; exact rfl; exact rfl; exact rfl; (first | omega | decide | (simp only []; omega))) | (apply q_sliceFrom; exact rfl; exact rfl; exact rfl; exact rfl; exact rfl; exact rfl; (first | omega | decide | (simp only []; omega))) | fail) : p := h
theorem wqs {p : Prop} (h : p := by first | (apply c_load; exact rfl; (repeat (first | exact CAt.here | apply CAt.there)); exact rfl; exact rfl; exact rfl) | (apply c_loadA; exact rfl; (repeat (first | exact CAt.here | apply CAt.there)); exact rfl; exact rfl; exact rfl) | (apply q_makeFunc; exact rfl; exact rfl) | fail) : p := h
theorem wcm {p : Prop} (h : p := by first | (apply q_lss; exact rfl; exact rfl) | (apply q_leq; exact rfl; exact rfl) | (apply q_gtr; exact rfl; exact rfl) | (apply q_geq; exact rfl; exact rfl) | (apply q_eql; exact rfl; exact rfl) | (apply q_neq; exact rfl; exact rfl) | fail) : p := h
theorem wre {G R : Prop} (r : R) (h : R → G := by
  intro r
  first
  | exact r_cons rfl wqs rfl r
  | exact r_gno rfl rfl rfl r
  | exact r_gcons rfl rfl wqs rfl r
  | fail) : G := h r
theorem wrs {G : Prop} (h : G := by repeat (first | refine wre ?_ | exact r_nil | fail)) : G := h
theorem wk {G R : Prop} (r : R) (h : R → G := by
  intro r
  first
  | exact t_seq r
  | exact t_region r
  | (show TripL _ _ _ _ _ _ _ _
     first
     | exact l_nil r
     | exact l_qp wqp rfl r
     | exact l_qs wqs rfl r
     | exact l_guard_yes rfl r
     | exact l_guard_no rfl rfl r
     | (apply c_store; exact rfl; exact rfl; (repeat (first | exact CAt.here | apply CAt.there)); exact rfl; exact rfl; exact rfl; exact rfl; exact r)
     | fail)
  | exact t_if_true rfl r
  | exact p_ret r
  | exact pb_ret r
  | exact t_if_false rfl r
  | exact t_skip r
  | exact t_ret r
  | exact t_block r
  | exact t_exit r
  | (show TD _ _ _ _ _ _ _ _
     first
     | exact d_qp rfl wqp rfl r
     | exact d_qs rfl wqs rfl r
     | exact d_fin r
     | exact d_eff rfl r d_stop
     | exact d_gqp rfl rfl wqp rfl r
     | exact d_gqs rfl rfl wqs rfl r
     | exact d_gno rfl rfl rfl r
     | fail)
  | exact n_eff wrs r
  | fail) : G := h r
theorem wc {G R1 R2 p : Prop} (a : p → R1) (b : ¬ p → R2) (h : (p → R1) → (¬ p → R2) → G := by
  intro a b
  first
  | exact l_cmp wcm rfl a b
  | exact d_cmp rfl wcm rfl a b
  | exact d_gcmp rfl rfl wcm rfl a b
  | fail) : G := h a b
theorem wb {G : Prop} {R : Nat → Prop} (r : ∀ b, R b) (h : (∀ b, R b) → G := by
  intro r
  first
  | exact o_box rfl rfl rfl r
  | exact o_alloc rfl rfl r
  | fail) : G := h r
end Go.Ox
end
