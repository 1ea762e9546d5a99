/- WholeKept, part 12. No condition. -/
import Derived.Recover
import Derived.Test.YtonpakokjgloaaaGreatOx11
set_option linter.all false
section
namespace Go.Ox
open Go
theorem d_recov {P : Program} [T : Tab P] {f : FuncId} {fn : Func} {i1 i2 d1 d2 d3 d4 : Nat} {X : Code} {t1 t2 t3 t4 t6 t7 : TypeId} {p1 p2 p3 p4 : String} {a1 a2 a3 a4 : Array Edge} {args : Array Value} {w : World} {ti : TInf} {ms : _}
  (hf : P.funcs[f]? = some fn)
  (hb : fn.body = some (.seq (.region i1 #[⟨some d1, .call ⟨.builtin .recover, #[], #[]⟩, t1, p1, a1, none⟩, ⟨some d2, .assign (.tmp d1), t2, p2, a2, none⟩] false)
   (.seq (.region i2 #[⟨some d3, .move (.tmp d2), t3, p3, a3, none⟩, ⟨some d4, .binOp .neq t6 (.tmp d3) (.const .nilIface) t7, t4, p4, a4, none⟩] false) (.cond (.tmp d4) X .skip))))
  (hT : T.tab t6 = some ti) (hd : ti.desc = .interface ms)
  (hr : fn.results = #[]) (h1 : d1 < fn.ntmps) (h2 : d2 < fn.ntmps) (h3 : d3 < fn.ntmps) (h4 : d4 < fn.ntmps) (ha : args.size ≤ fn.ntmps) :
  CallsD P f args .returning w fun e u' w' => (∃ v, e = .returned v) ∧ u' = .returning ∧ w' = w := by
 refine callsD_of_wpS hf hb fun c₀ cs hm => ?_
 have hsz : (args ++ Array.replicate (fn.ntmps - args.size) undef).size = fn.ntmps := by simp; omega
 generalize (args ++ Array.replicate (fn.ntmps - args.size) undef) = tm at hsz
 have hrec : recoverD (c₀ :: cs) = none := by simp [recoverD, hm]
 have hx1 : ∀ a : Act, (execOp a.eval ⟨some d1, .call ⟨.builtin .recover, #[], #[]⟩, t1, p1, a1, none⟩).run P w = .ok .recover w := fun a => by
  simp [execOp, resolve, invoke, builtin]
 have hx2 : ∀ (a : Act) (v : Value), a.tmps[d1]? = some v → (execOp a.eval ⟨some d2, .assign (.tmp d1), t2, p2, a2, none⟩).run P w = .ok (.value v) w := fun a v h => by
  simp [execOp, Act.eval, h]
 have hx3 : ∀ (a : Act) (v : Value), a.tmps[d2]? = some v → (execOp a.eval ⟨some d3, .move (.tmp d2), t3, p3, a3, none⟩).run P w = .ok (.value v) w := fun a v h => by
  simp [execOp, Act.eval, h]
 have hu := r_under (P := P) w hT
 rw [hd] at hu
 have hx4 : ∀ (a : Act), a.tmps[d3]? = some .nilIface → (execOp a.eval ⟨some d4, .binOp .neq t6 (.tmp d3) (.const .nilIface) t7, t4, p4, a4, none⟩).run P w = .ok (.value (.bool false)) w := fun a h => by
  have he : (Op.equal t6 .nilIface .nilIface).run P w = .ok true w := by
   have h : ∀ d : Nat, (Op.equalIn (d + 1) t6 .nilIface .nilIface).run P w = .ok true w := fun d => by simp [Op.equalIn, hu]
   exact h 9999
  simp [execOp, Act.eval, h, eqGuard, binOp, he]
 refine wpS_seq (wpS_region ?_)
 show wpOpsS P _ _ [0, 1] _ _ _
 unfold wpOpsS
 simp only [List.getElem?_toArray, List.getElem?_cons_zero, Region.wanted, if_true, hx1, hrec]
 unfold wpOpsS
 simp only [List.getElem?_toArray, List.getElem?_cons_succ, List.getElem?_cons_zero, Region.wanted, if_true]
 rw [hx2 _ .nilIface (put_eq _ _ (by simpa [hsz] using h1))]
 simp only [Oper.upon_value]
 unfold wpOpsS
 show (Code.seq _ _).wpS P _ _ _ _
 refine wpS_seq (wpS_region ?_)
 show wpOpsS P _ _ [0, 1] _ _ _
 unfold wpOpsS
 simp only [List.getElem?_toArray, List.getElem?_cons_zero, Region.wanted, if_true]
 rw [hx3 _ .nilIface (put_eq _ _ (by simp only [put_size, hsz]; exact h2))]
 simp only [Oper.upon_value]
 unfold wpOpsS
 simp only [List.getElem?_toArray, List.getElem?_cons_succ, List.getElem?_cons_zero, Region.wanted, if_true]
 rw [hx4 _ (put_eq _ _ (by simp only [put_size, hsz]; exact h3))]
 simp only [Oper.upon_value]
 unfold wpOpsS
 show (Code.cond _ _ _).wpS P _ _ _ _
 refine wpS_cond (t := false) (by simp only [Act.eval]; rw [show ∀ (a : Act), ((a.put (some d4) (.bool false)).tmps.getD d4 undef) = ((a.put (some d4) (.bool false)).tmps[d4]?).getD undef from fun a => by simp [Array.getD_eq_getD_getElem?], put_eq _ _ (by simp only [put_size, hsz]; exact h4)]; rfl) ?_
 refine wpS_of_wp (wp_skip ?_)
 refine ⟨?_, .returning, ?_, .tuple #[], ?_, ⟨_, rfl⟩, rfl, rfl⟩
 ·simp [put_defers]
 ·rw [← hm]
 ·simp [results, hr]
section
variable {P : Program} [T : Tab P] {N : Nat} {ops rest : List Oper} {D : List Deferred} {env : KEnv} {S : List Asn} {Q : Post} {d : Nat} {t : TypeId} {pos : String} {aft : Array Edge}
theorem l_defer {x : Operand} {xs : List Operand} {tys : Array TypeId} {us cs vs : List Value} {f : FuncId} (hx : ev env x = some (.func (.func f) us.toArray cs.toArray)) (ha : evs env xs = some vs)
  (next : TripL P N ops rest (⟨.fn (.func f) cs.toArray, us.toArray ++ vs.toArray⟩ :: D) env S Q) : TripL P N ops (⟨none, .defer ⟨.value x, xs.toArray, tys⟩, t, pos, aft, none⟩ :: rest) D env S Q :=
 ⟨fun G F a w k => wpList_plain rfl fun K hK => by
  have hrun : (execOp a.eval ⟨none, .defer ⟨.value x, xs.toArray, tys⟩, t, pos, aft, none⟩).run P w = .ok (.defer ⟨.fn (.func f) cs.toArray, us.toArray ++ vs.toArray⟩) w := by
   have hargs := k.env.evals ha
   have hv := k.env.eval hx
   simp [execOp, resolve, hv, Deferred.ofValue, hargs]
  unfold Oper.wp; rw [hrun]
  refine hK _ _ (next.run G F _ _ ⟨k.size, k.env, ?_, k.sat⟩)
  simp [Act.put, k.defers]⟩
theorem c_callV {x : Operand} {f : FuncId} {xs : List Operand} {tys : Array TypeId} {us cs vs : List Value} {Pre Rest : List Asn} {R : Value → List Asn → Prop} (hx : ev env x = some (.func (.func f) us.toArray cs.toArray)) (hs : Spec P f (us ++ vs ++ cs) Pre R) (ha : evs env xs = some vs) (hp : Pick S Pre Rest) (hf : T.enters f = true) (hN : ok N d)
  (next : ∀ v S', R v S' → TripL P N ops rest D ((d, v) :: env) (S' ++ Rest) Q) : TripL P N ops (⟨some d, .call ⟨.value x, xs.toArray, tys⟩, t, pos, aft, none⟩ :: rest) D env S Q :=
 l_ent (Ent.perm hp.perm) (by
  refine ⟨fun G F act w k => wpList_plain rfl fun K hK => ?_⟩
  obtain ⟨fn, h1, h2, h3⟩ := T.enter f hf
  have hrun : (execOp act.eval ⟨some d, .call ⟨.value x, xs.toArray, tys⟩, t, pos, aft, none⟩).run P w = .ok (.enter f (us ++ vs ++ cs).toArray) w := by
   have hargs := k.env.evals ha
   have hv := k.env.eval hx
   have h2' : ¬ fn.body = none := by intro h; simp [h] at h2
   have h3' : ¬ fn.name = "runtime.NumGoroutine" := by intro h; simp [h] at h3
   simp [execOp, resolve, hv, Deferred.ofValue, invoke, callFunc, h1, h2', h3', hargs]
  unfold Oper.wp; rw [hrun]
  have hsat : sat G w (Pre ++ (Rest ++ F)) := by rw [← List.append_assoc]; exact k.sat
  refine (hs G (Rest ++ F) w hsat).mono fun e' w' ⟨v, S', he, hr, hs'⟩ => ?_
  subst he
  refine hK _ _ ((next v S' hr).run G F _ _ ⟨?_, k.env.put (ok_lt hN k.size), k.defers, by rw [List.append_assoc]; exact hs'⟩)
  rw [put_size]; exact k.size)
end
def DSpec (P : Program) (f : FuncId) (args : List Value) (Pre : List Asn) (R : List Asn → Prop) : Prop :=
 ∀ G F w, sat G w (Pre ++ F) → CallsD P f args.toArray .returning w fun e u' w' => ∃ v S', e = .returned v ∧ u' = .returning ∧ R S' ∧ sat G w' (S' ++ F)
inductive ResIs (P : Program) (env : KEnv) (S : List Asn) : ResultVar → Value → Prop where
 | tmp {t : Nat} {v : Value} (h : look env t = some v) : ResIs P env S (.tmp t) v
 | cell {x : Nat} {t : TypeId} {v : Value} (h : ∀ N D, QS P N D env S (.load t (.tmp x)) 0 v) : ResIs P env S (.cell x t) v
inductive ResAre (P : Program) (env : KEnv) (S : List Asn) : List ResultVar → List Value → Prop where
 | nil : ResAre P env S [] []
 | cons {r : ResultVar} {v : Value} {rs : List ResultVar} {vs : List Value} (h : ResIs P env S r v) (k : ResAre P env S rs vs) : ResAre P env S (r :: rs) (v :: vs)
theorem run_resultsC {P : Program} {fn : Func} {rs : List ResultVar} (hr : fn.results = rs.toArray) {N : Nat} {G : Ghost} {F : List Asn} {D : List Deferred} {env : KEnv} {S : List Asn} {a : Act} {w : World} (k : Holds N G F D env S a w) {vs : List Value} (h : ResAre P env S rs vs) :
  (results fn a.tmps).run P w = .ok (retV vs) w := by
 have key : ∀ (f : ResultVar → Sem Value), (∀ t, f (.tmp t) = pure (a.tmps.getD t undef)) → (∀ x t, f (.cell x t) = (do loadVar t (← asAddr (a.tmps.getD x undef)))) → ∀ (rs : List ResultVar) (vs : List Value), ResAre P env S rs vs → (rs.mapM f).run P w = .ok vs w := by
  intro f hf hc rs vs h
  induction h with
  | nil => rfl
  | cons h1 _ ih =>
   have hone : ∀ {r v}, ResIs P env S r v → (f r).run P w = .ok v w := by
    intro r v h
    cases h with
    | tmp h => rw [hf, Sem.run_pure, Array.getD_eq_getD_getElem?, k.env _ _ h, Option.getD_some]
    | @cell x t _ h =>
     have := (h N D).run G F a w k 0 "" #[]
     have hx : (∃ b, (a.tmps.getD x undef) = .pointer (some b)) := by
      simp only [execOp, Instr.loadAt, Act.eval] at this
      generalize a.tmps.getD x undef = u at this
      cases u with
      | pointer p =>
       cases p with
       | some b => exact ⟨b, rfl⟩
       | none => simp [Instr.sureAddr] at this
      | _ => simp [Instr.sureAddr] at this
     obtain ⟨b, hx⟩ := hx
     rw [hc, hx]
     simp only [execOp, Instr.loadAt, Act.eval, hx, Instr.sureAddr] at this
     simp [asAddr]
     simp at this
     cases hl : Sem.run P (loadVar t b) w with
     | ok v' w' => rw [hl] at this; simpa using this
     | halt _ _ => rw [hl] at this; simp at this
   rw [List.mapM_cons, Sem.run_bind, hone h1, Result.andThen_ok, Sem.run_bind, ih, Result.andThen_ok, Sem.run_pure]
 unfold results
 rw [hr, Array.mapM_eq_mapM_toList, Sem.run_bind, Sem.run_map, key _ (fun _ => rfl) (fun _ _ => rfl) rs vs h]
 simp only [Result.andThen_ok]
 rw [← retV_eq]
 rfl
def Out (P : Program) [T : Tab P] (rs : List ResultVar) (R : Value → List Asn → Prop) (env : KEnv) : List Deferred → List Asn → Prop
 | [], S => ∃ vs, ResAre P env S rs vs ∧ ∃ S', Ent S S' ∧ R (retV vs) S'
 | d :: ds, S => ∃ f cs ar vs Pre Rest Rd, d = ⟨.fn (.func f) cs, ar⟩ ∧ ar ++ cs = vs.toArray ∧ T.enters f = true ∧ DSpec P f vs Pre Rd ∧ Pick S Pre Rest ∧ ∀ S', Rd S' → Out P rs R env ds (S' ++ Rest)
def bodyPD (P : Program) [T : Tab P] (rs : List ResultVar) (R : Value → List Asn → Prop) : Post
 | .normal, D, env, S => Out P rs R env D S
 | .ret, D, env, S => Out P rs R env D S
 | _, _, _, _ => False
theorem out_leaves {P : Program} [T : Tab P] {fn : Func} {rs : List ResultVar} {R : Value → List Asn → Prop} {env : KEnv} (hr : fn.results = rs.toArray) {N : Nat} {G : Ghost} {F : List Asn} {a : Act} (hsz : a.tmps.size = N) (hag : Agrees a env) :
  ∀ (D : List Deferred) (S : List Asn) (w : World), Out P rs R env D S → sat G w (S ++ F) → Leaves P fn a.tmps (fun e w' => ∃ v S', e = .returned v ∧ R v S' ∧ sat G w' (S' ++ F)) D .returning w := by
 intro D
 induction D with
 | nil =>
  intro S w h hs
  obtain ⟨vs, hv, S', he, hR⟩ := h
  exact ⟨retV vs, run_resultsC hr (k := (⟨hsz, hag, rfl, hs⟩ : Holds N G F a.defers env S a w)) hv, retV vs, S', rfl, hR, hs.ent (he.frame F)⟩
 | cons d ds ih =>
  intro S w h hs
  obtain ⟨f, cs, ar, vs, Pre, Rest, Rd, rfl, hvs, hf, hd, hp, hn⟩ := h
  obtain ⟨fn', h1, h2, h3⟩ := T.enter f hf
  have h2' : ¬ fn'.body = none := by intro h; simp [h] at h2
  have h3' : ¬ fn'.name = "runtime.NumGoroutine" := by intro h; simp [h] at h3
  refine leaves_cons (f := f) (args := vs.toArray) (by simp) (by simp [invoke, callFunc, h1, h2', h3', hvs]) ?_
  have hsat : sat G w (Pre ++ (Rest ++ F)) := by rw [← List.append_assoc]; exact hs.ent ((Ent.perm hp.perm).frame F)
  refine (hd G (Rest ++ F) w hsat).mono fun e u' w' ⟨v, S', he, hu, hr', hs'⟩ => ?_
  subst he; subst hu
  exact ih (S' ++ Rest) w' (hn S' hr') (by rw [List.append_assoc]; exact hs')
theorem act_start {args : List Value} {N : Nat} {fn : Func} (hn : fn.ntmps = N) (hle : args.length ≤ N) :
  (args.toArray ++ Array.replicate (fn.ntmps - args.toArray.size) undef).size = N ∧ Agrees { tmps := args.toArray ++ Array.replicate (fn.ntmps - args.toArray.size) undef, defers := [] } (numF 0 args) := by
 constructor
 ·simp only [Array.size_append, List.size_toArray, Array.size_replicate, hn]; omega
 ·intro t v hl
  obtain ⟨_, h2⟩ := numF_look hl
  have hlt := (List.getElem?_eq_some_iff.1 h2).1
  simp only [Nat.sub_zero] at h2 hlt
  rw [Array.getElem?_append_left (by simpa using hlt)]
  simpa using h2
theorem spec_of_d {P : Program} [T : Tab P] {f : FuncId} {fn : Func} {c : Code} {rs : List ResultVar} {N : Nat} {args : List Value} {Pre : List Asn} {R : Value → List Asn → Prop}
  (hf : P.funcs[f]? = some fn) (hb : fn.body = some c) (hr : fn.results = rs.toArray) (hn : fn.ntmps = N) (hle : Nat.ble args.length N = true)
  (h : Trip P N c [] (numF 0 args) Pre (bodyPD P rs R)) : Spec P f args Pre R := by
 intro G F w hs
 have hle' := Nat.le_of_ble_eq_true hle
 obtain ⟨hsz, hag⟩ := act_start hn hle'
 refine calls_of_wp_defers hf hb (Code.wp_mono ?_ (h.run G F _ w ⟨hsz, hag, rfl, hs⟩))
 rintro e a w ⟨D, env, S, q, k⟩
 cases e with
 | normal =>
  have := out_leaves hr k.size k.env D S w q k.sat
  rw [← k.defers] at this; exact this
 | ret =>
  have := out_leaves hr k.size k.env D S w q k.sat
  rw [← k.defers] at this; exact this
 | exit i => exact q.elim
 | goto i => exact q.elim
 | panic i => exact q.elim
 | outgrown => exact q.elim
theorem dspec_of {P : Program} {f : FuncId} {fn : Func} {c : Code} {rs : List ResultVar} {N : Nat} {args : List Value} {Pre : List Asn} {R : List Asn → Prop}
  (hf : P.funcs[f]? = some fn) (hb : fn.body = some c) (hr : fn.results = rs.toArray) (hn : fn.ntmps = N) (hle : Nat.ble args.length N = true)
  (h : Trip P N c [] (numF 0 args) Pre (bodyP rs fun _ S => R S)) : DSpec P f args Pre R := by
 intro G F w hs
 have hle' := Nat.le_of_ble_eq_true hle
 obtain ⟨hsz, hag⟩ := act_start hn hle'
 refine (callsD_of_wp (R := fun e w' => ∃ v S', e = .returned v ∧ R S' ∧ sat G w' (S' ++ F)) hf hb (Code.wp_mono ?_ (h.run G F _ w ⟨hsz, hag, rfl, hs⟩))).mono ?_
 ·rintro e a w ⟨D, env, S, q, k⟩
  cases e with
  | normal =>
   obtain ⟨rfl, vs, hv, S', he, hR⟩ := q
   exact ⟨k.defers, retV vs, run_results hr k.env hv w, retV vs, S', rfl, hR, k.sat.ent (he.frame F)⟩
  | ret =>
   obtain ⟨rfl, vs, hv, S', he, hR⟩ := q
   exact ⟨k.defers, retV vs, run_results hr k.env hv w, retV vs, S', rfl, hR, k.sat.ent (he.frame F)⟩
  | exit i => exact q.elim
  | goto i => exact q.elim
  | panic i => exact q.elim
  | outgrown => exact q.elim
 ·rintro e u' w' ⟨rfl, v, S', he, hR, hs'⟩
  exact ⟨v, S', he, rfl, hR, hs'⟩
theorem dspec_recov {P : Program} {f : FuncId} {args : List Value} (h : ∀ w, CallsD P f args.toArray .returning w fun e u' w' => (∃ v, e = .returned v) ∧ u' = .returning ∧ w' = w) : DSpec P f args [] (fun S => S = []) :=
 fun G F w hs => (h w).mono fun e u' w' ⟨⟨v, he⟩, hu, hw⟩ => ⟨v, [], he, hu, rfl, by rw [hw]; exact hs⟩
section
variable {P : Program} [T : Tab P] {rs : List ResultVar} {R : Value → List Asn → Prop} {env : KEnv} {S : List Asn} {D : List Deferred}
theorem bd_ret (h : Out P rs R env D S) : bodyPD P rs R .ret D env S := h
theorem bd_end (h : Out P rs R env D S) : bodyPD P rs R .normal D env S := h
theorem out_nil {vs : List Value} (S' : List Asn) (hv : ResAre P env S rs vs) (he : Ent S S') (h : R (retV vs) S') : Out P rs R env [] S := ⟨vs, hv, S', he, h⟩
theorem out_cons {f : FuncId} {cs ar : Array Value} {ds : List Deferred} {vs : List Value} {Pre Rest : List Asn} {Rd : List Asn → Prop} (hd : DSpec P f vs Pre Rd) (hvs : ar ++ cs = vs.toArray) (hf : T.enters f = true) (hp : Pick S Pre Rest) (h : ∀ S', Rd S' → Out P rs R env ds (S' ++ Rest)) : Out P rs R env (⟨.fn (.func f) cs, ar⟩ :: ds) S :=
 ⟨f, cs, ar, vs, Pre, Rest, Rd, rfl, hvs, hf, hd, hp, h⟩
theorem out_recov {f : FuncId} {cs ar : Array Value} {ds : List Deferred} {vs : List Value} (hd : DSpec P f vs [] (fun S => S = [])) (hvs : ar ++ cs = vs.toArray) (hf : T.enters f = true) (h : Out P rs R env ds S) : Out P rs R env (⟨.fn (.func f) cs, ar⟩ :: ds) S :=
 out_cons hd hvs hf .nil fun S' hS => by subst hS; exact h
end
theorem t_loop0 {P : Program} {N : Nat} {c : Code} {D : List Deferred} {env : KEnv} {S : List Asn} {Q : Post} (h : Trip P N c D env S (thenP (fun _ _ _ => False) Q)) : Trip P N (.loop c) D env S Q :=
 t_loop (fun n env' S' => n = 0 ∧ env' = env ∧ S' = S) 0 env S ⟨rfl, rfl, rfl⟩ (fun _ _ q => q) (Ent.refl _) (by
  rintro n env S ⟨rfl, rfl, rfl⟩
  exact t_mono h fun e D env S q => by cases e <;> first | exact q.elim | exact q)
end Go.Ox
end
section
namespace Go.Ox
open Go Go.MapKept
def amap (b : Nat) (kd : TypeDesc) (l : List (Value × Value)) : Asn := fun h => ∃ m : List (Value × Value), m.Perm l ∧ mapAt b kd m h
def arange (it b : Nat) (kd : TypeDesc) (l left : List (Value × Value)) (cur : Option (Value × Value)) : Asn := fun h =>
 ∃ m lf : List (Value × Value), m.Perm l ∧ lf.Perm left ∧ rangeAt it b kd m lf cur h
theorem amap_perm {b : Nat} {kd : TypeDesc} {l l' : List (Value × Value)} (hp : l.Perm l') {h : PHeap} (k : amap b kd l h) : amap b kd l' h := by
 obtain ⟨m, hq, hm⟩ := k
 exact ⟨m, hq.trans hp, hm⟩
theorem amap_open {b : Nat} {kd : TypeDesc} {l : List (Value × Value)} : ∀ h, amap b kd l h → ∃ m : List (Value × Value), m.Perm l ∧ star [mapAt b kd m] h := fun h ⟨m, hp, hm⟩ => ⟨m, hp, h, fun _ => none, fun _ => .inr rfl, sub.refl h, fun _ _ e => (by cases e), hm, trivial⟩
section
variable {P : Program} [T : Tab P] {N : Nat} {ops rest : List Oper} {D : List Deferred} {env : KEnv} {S S' : List Asn} {Q : Post} {d b : Nat} {t xt kt et : TypeId} {pos : String} {aft : Array Edge}
 {x y z : Operand} {key v old : Value} {kd : TypeDesc} {l l2 : List (Value × Value)} {ti ki ei : TInf}
theorem l_opN {op : Op} {v : Value} {S' : List Asn}
  (hrun : ∀ G F a w, Holds N G F D env S a w → ∃ w', (execOp a.eval ⟨none, op, t, pos, aft, none⟩).run P w = .ok (.value v) w' ∧ sat G w' (S' ++ F))
  (next : TripL P N ops rest D env S' Q) : TripL P N ops (⟨none, op, t, pos, aft, none⟩ :: rest) D env S Q :=
 ⟨fun G F a w k => wpList_plain rfl fun K hK => by
  obtain ⟨w', hr, hs⟩ := hrun G F a w k
  unfold Oper.wp; rw [hr]
  exact hK _ _ (next.run G F _ _ ⟨k.size, k.env, k.defers, hs⟩)⟩
section
variable {m m1 m2 : List (Value × Value)}
theorem o_deleteN {tys : Array TypeId} (i : Nat) (hx : ev env x = some (.map (some b))) (hy : ev env y = some key) (hi : at? S i = some (mapAt b kd m)) (ht : tys[0]? = some xt) (hT : T.tab xt = some ti) (hd : ti.desc = .map kt et) (hK : T.tab kt = some ki) (hkd : ki.desc = kd) (hkey : IsKey kd key)
  (hm : m = m1 ++ (key, old) :: m2) (next : TripL P N ops rest D env (put S i (mapAt b kd (m1 ++ m2))) Q) : TripL P N ops (⟨none, .call ⟨.builtin .delete, #[x, y], tys⟩, t, pos, aft, none⟩ :: rest) D env S Q :=
 l_opN (v := .tuple #[]) (fun G F a w k => by
  subst hm
  obtain ⟨es, clock, hs, hm, hk, ks⟩ := map_open (sat_del hi k.sat)
  have hb : w.heap[b]? = some (.map es clock) := sat.get (S := [pt b _]) (F := del S i ++ F) (n := 0) ks rfl
  obtain ⟨e, f1, f2, f3, f4⟩ := find_hit hkey hm hk hs
  have hu := T.under xt ti hT
  have hku := T.under kt ki hK
  rw [hd] at hu; rw [hkd] at hku
  have hc := run_checkKey (P := P) (w := w) hku hkey es.isEmpty 9999
  refine ⟨_, by
   simp [execOp, resolve, invoke, builtin, Builtin.delete_, ht, k.env.eval hx, k.env.eval hy, run_underlying hu, MapKept.run_getObj_map hb, hc, run_findKey hku f1, MapKept.run_setObj_map _ hb]
   rfl, sat_setMap hi ks (stamped_erase hs _) ?_ ?_⟩
  ·have he : (es.eraseIdxIfInBounds m1.length).toList = es.toList.eraseIdx m1.length := by
    rw [Array.eraseIdxIfInBounds]
    split
    ·simp
    ·rename_i h
     rw [List.eraseIdx_of_length_le (by simpa using h)]
   have hme : ∀ (l : List MapEntry) (j : Nat), (l.eraseIdx j).map (fun e => (e.key, e.val)) = (l.map (fun e => (e.key, e.val))).eraseIdx j := by
    intro l
    induction l with
    | nil => intro j; simp
    | cons a l ih => intro j; cases j with
     | zero => simp
     | succ j => simp [ih]
   rw [he, hme, hm]
   simp [List.eraseIdx_append_of_length_le]
  ·intro p hp
   rcases List.mem_append.1 hp with h | h
   ·exact hk p (List.mem_append_left _ h)
   ·exact hk p (List.mem_append_right _ (List.mem_cons_of_mem _ h))) next
theorem o_clearN {tys : Array TypeId} (i : Nat) (hx : ev env x = some (.map (some b))) (hi : at? S i = some (mapAt b kd m)) (ht : tys[0]? = some xt) (hT : T.tab xt = some ti) (hd : ti.desc = .map kt et)
  (next : TripL P N ops rest D env (put S i (mapAt b kd [])) Q) : TripL P N ops (⟨none, .call ⟨.builtin .clear, #[x], tys⟩, t, pos, aft, none⟩ :: rest) D env S Q :=
 l_opN (v := .tuple #[]) (fun G F a w k => by
  obtain ⟨es, clock, hs, hm, hk, ks⟩ := map_open (sat_del hi k.sat)
  have hb : w.heap[b]? = some (.map es clock) := sat.get (S := [pt b _]) (F := del S i ++ F) (n := 0) ks rfl
  have hu := T.under xt ti hT
  rw [hd] at hu
  exact ⟨_, (by simp [execOp, resolve, invoke, builtin, Builtin.clear_, ht, k.env.eval hx, run_underlying hu, MapKept.run_getObj_map hb, MapKept.run_setObj_map _ hb]), sat_setMap hi ks (stamped_empty clock) rfl (fun p hp => by cases hp)⟩) next
end
theorem QS.opn {α : Type} {op : Op} {A : Asn} {p : α → Prop} {B : α → Asn} (i : Nat) (hi : at? S i = some A) (hA : ∀ h, A h → ∃ x, p x ∧ star [B x] h) (k : ∀ x, p x → QS P N D env (put S i (B x)) op t v) : QS P N D env S op t v :=
 ⟨fun G F a w hw d pos aft => by
  obtain ⟨x, hp, hs⟩ := sat_ex hA (sat_del hi hw.sat)
  exact (k x hp).run G F a w ⟨hw.size, hw.env, hw.defers, sat_back hi hs⟩ d pos aft⟩
theorem l_opn {α : Type} {A : Asn} {p : α → Prop} {B : α → Asn} (i : Nat) (hi : at? S i = some A) (hA : ∀ h, A h → ∃ x, p x ∧ star [B x] h) (k : ∀ x, p x → TripL P N ops rest D env (put S i (B x)) Q) : TripL P N ops rest D env S Q :=
 ⟨fun G F a w hw => by
  obtain ⟨x, hp, hs⟩ := sat_ex hA (sat_del hi hw.sat)
  exact (k x hp).run G F a w ⟨hw.size, hw.env, hw.defers, sat_back hi hs⟩⟩
theorem at_put : ∀ {S : List Asn} {i : Nat} {A : Asn} (_ : at? S i = some A) (B : Asn), at? (put S i B) i = some B := by
 intro S
 induction S with
 | nil => intro i A h; cases h
 | cons C S ih => intro i A h B; cases i with
  | zero => rfl
  | succ i => exact ih (i := i) h B
theorem put_put : ∀ (S : List Asn) (i : Nat) (A B : Asn), put (put S i A) i B = put S i B := by
 intro S
 induction S with
 | nil => intro i A B; cases i <;> rfl
 | cons C S ih => intro i A B; cases i with
  | zero => rfl
  | succ i => simp [put, ih]
theorem mem_split {m : List (Value × Value)} {p : Value × Value} (h : p ∈ m) : ∃ m1 m2, m = m1 ++ p :: m2 := List.append_of_mem h
theorem c_lookup {ok : Bool} (hx : ev env x = some (.map (some b))) (hy : ev env y = some key) (hc : CAt S (amap b kd l) (amap b kd l) S') (hT : T.tab xt = some ti) (hd : ti.desc = .map kt et) (hK : T.tab kt = some ki) (hkd : ki.desc = kd) (hkey : IsKey kd key)
  (hm : (key, v) ∈ l) : QS P N D env S (.lookup xt x y ok) t (bif ok then .tuple #[v, .bool true] else v) := by
 obtain ⟨i, hi, _⟩ := hc.at
 refine QS.opn i hi amap_open fun m hp => ?_
 obtain ⟨m1, m2, hm'⟩ := mem_split (hp.mem_iff.2 hm)
 exact q_lookup i hx hy (at_put hi _) hT hd hK hkd hkey hm'
theorem c_lookup_no {ok : Bool} (hx : ev env x = some (.map (some b))) (hy : ev env y = some key) (hc : CAt S (amap b kd l) (amap b kd l) S') (hT : T.tab xt = some ti) (hd : ti.desc = .map kt et) (hK : T.tab kt = some ki) (hkd : ki.desc = kd) (hE : T.tab et = some ei) (hkey : IsKey kd key)
  (hm : ∀ p ∈ l, p.1 ≠ key) : QS P N D env S (.lookup xt x y ok) t (bif ok then .tuple #[ei.zv, .bool false] else ei.zv) := by
 obtain ⟨i, hi, _⟩ := hc.at
 refine QS.opn i hi amap_open fun m hp => ?_
 exact q_lookup_no i hx hy (at_put hi _) hT hd hK hkd hE hkey fun p h => hm p (hp.mem_iff.1 h)
theorem c_lenMap (hx : ev env x = some (.map (some b))) (hc : CAt S (amap b kd l) (amap b kd l) S') (hT : T.tab xt = some ti) (hd : ti.desc = .map kt et) : QS P N D env S (.call ⟨.builtin .len, #[x], #[xt]⟩) t (.int .i64 l.length) := by
 obtain ⟨i, hi, _⟩ := hc.at
 refine QS.opn i hi amap_open fun m hp => ?_
 rw [← hp.length_eq]
 exact q_lenMap i hx (at_put hi _) hT hd
theorem sub_put {A B : Asn} (i : Nat) (hi : at? S i = some A) (hAB : ∀ h, A h → B h) (k : TripL P N ops rest D env (put S i B) Q) : TripL P N ops rest D env S Q :=
 l_opn (α := Unit) (p := fun _ => True) (B := fun _ => B) i hi (fun h ha => ⟨(), trivial, h, fun _ => none, fun _ => .inr rfl, sub.refl h, fun _ _ e => (by cases e), hAB h ha, trivial⟩) fun _ _ => k
theorem c_mapAdd {f : Asn → List Asn} (hx : ev env x = some (.map (some b))) (hy : ev env y = some key) (hz : ev env z = some v) (hc : Hole S (amap b kd l) f) (hT : T.tab xt = some ti) (hd : ti.desc = .map kt et) (hK : T.tab kt = some ki) (hkd : ki.desc = kd) (hkey : IsKey kd key)
  (hm : ∀ p ∈ l, p.1 ≠ key) (next : TripL P N ops rest D env (f (amap b kd ((key, v) :: l))) Q) : TripL P N ops (⟨none, .mapUpdate xt x y z, t, pos, aft, none⟩ :: rest) D env S Q := by
 obtain ⟨i, hi, hf⟩ := hc.at
 refine l_opn i hi amap_open fun m hp => ?_
 refine o_mapAdd i hx hy hz (at_put hi _) hT hd hK hkd hkey (fun p h => hm p (hp.mem_iff.1 h)) ?_
 rw [put_put]
 refine sub_put i (at_put hi _) (B := amap b kd ((key, v) :: l)) (fun h hh => ⟨_, (List.perm_append_singleton _ _).trans (hp.cons _), hh⟩) ?_
 rw [put_put, hf]; exact next
theorem c_mapSet {f : Asn → List Asn} (hx : ev env x = some (.map (some b))) (hy : ev env y = some key) (hz : ev env z = some v) (hc : Hole S (amap b kd l) f) (hT : T.tab xt = some ti) (hd : ti.desc = .map kt et) (hK : T.tab kt = some ki) (hkd : ki.desc = kd) (hkey : IsKey kd key)
  (hm : l.Perm ((key, old) :: l2)) (next : TripL P N ops rest D env (f (amap b kd ((key, v) :: l2))) Q) : TripL P N ops (⟨none, .mapUpdate xt x y z, t, pos, aft, none⟩ :: rest) D env S Q := by
 obtain ⟨i, hi, hf⟩ := hc.at
 refine l_opn i hi amap_open fun m hp => ?_
 obtain ⟨m1, m2, rfl⟩ := mem_split ((hp.trans hm).mem_iff.2 (List.mem_cons_self ..))
 have hp2 : (m1 ++ m2).Perm l2 := (List.perm_cons _).1 (List.perm_middle.symm.trans (hp.trans hm))
 refine o_mapSet i hx hy hz (at_put hi _) hT hd hK hkd hkey rfl ?_
 rw [put_put]
 refine sub_put i (at_put hi _) (B := amap b kd ((key, v) :: l2)) (fun h hh => ⟨_, List.perm_middle.trans (hp2.cons _), hh⟩) ?_
 rw [put_put, hf]; exact next
theorem c_delete {f : Asn → List Asn} {tys : Array TypeId} (hx : ev env x = some (.map (some b))) (hy : ev env y = some key) (hc : Hole S (amap b kd l) f) (ht : tys[0]? = some xt) (hT : T.tab xt = some ti) (hd : ti.desc = .map kt et) (hK : T.tab kt = some ki) (hkd : ki.desc = kd) (hkey : IsKey kd key)
  (hm : l.Perm ((key, old) :: l2)) (next : TripL P N ops rest D env (f (amap b kd l2)) Q) : TripL P N ops (⟨none, .call ⟨.builtin .delete, #[x, y], tys⟩, t, pos, aft, none⟩ :: rest) D env S Q := by
 obtain ⟨i, hi, hf⟩ := hc.at
 refine l_opn i hi amap_open fun m hp => ?_
 obtain ⟨m1, m2, rfl⟩ := mem_split ((hp.trans hm).mem_iff.2 (List.mem_cons_self ..))
 have hp2 : (m1 ++ m2).Perm l2 := (List.perm_cons _).1 (List.perm_middle.symm.trans (hp.trans hm))
 refine o_deleteN i hx hy (at_put hi _) ht hT hd hK hkd hkey rfl ?_
 rw [put_put]
 refine sub_put i (at_put hi _) (B := amap b kd l2) (fun h hh => ⟨_, hp2, hh⟩) ?_
 rw [put_put, hf]; exact next
theorem c_clear {f : Asn → List Asn} {tys : Array TypeId} (hx : ev env x = some (.map (some b))) (hc : Hole S (amap b kd l) f) (ht : tys[0]? = some xt) (hT : T.tab xt = some ti) (hd : ti.desc = .map kt et)
  (next : TripL P N ops rest D env (f (amap b kd [])) Q) : TripL P N ops (⟨none, .call ⟨.builtin .clear, #[x], tys⟩, t, pos, aft, none⟩ :: rest) D env S Q := by
 obtain ⟨i, hi, hf⟩ := hc.at
 refine l_opn i hi amap_open fun m hp => ?_
 refine o_clearN i hx (at_put hi _) ht hT hd ?_
 rw [put_put]
 refine sub_put i (at_put hi _) (B := amap b kd []) (fun h hh => ⟨_, .refl _, hh⟩) ?_
 rw [put_put, hf]; exact next
theorem c_makeMap (hT : T.tab xt = some ti) (hd : ti.desc = .map kt et) (hK : T.tab kt = some ki) (hkd : ki.desc = kd) (hN : ok N d)
  (next : ∀ b, TripL P N ops rest D ((d, .map (some b)) :: env) (amap b kd [] :: S) Q) : TripL P N ops (⟨some d, .makeMap xt none, t, pos, aft, none⟩ :: rest) D env S Q :=
 o_makeMap hT hd hK hkd hN fun b => sub_put 0 rfl (B := amap b kd []) (fun h hh => ⟨_, .refl _, hh⟩) (next b)
theorem c_range {f : Asn → List Asn} (hx : ev env x = some (.map (some b))) (hc : Hole S (amap b kd l) f) (hT : T.tab xt = some ti) (hd : ti.desc = .map kt et) (hN : ok N d)
  (next : ∀ it, TripL P N ops rest D ((d, .pointer (some ⟨it, 0, none⟩)) :: env) (f (arange it b kd l l none)) Q) : TripL P N ops (⟨some d, .range xt x, t, pos, aft, none⟩ :: rest) D env S Q := by
 obtain ⟨i, hi, hf⟩ := hc.at
 refine l_opn i hi amap_open fun m hp => ?_
 refine o_range i hx (at_put hi _) hT hd hN fun it => ?_
 rw [put_put]
 refine sub_put i (at_put hi _) (B := arange it b kd l l none) (fun h hh => ⟨_, _, hp, hp, hh⟩) ?_
 rw [put_put, hf]; exact next it
theorem arange_open {it : Nat} {left : List (Value × Value)} {cur : Option (Value × Value)} : ∀ h, arange it b kd l left cur h → ∃ q : List (Value × Value) × List (Value × Value), (q.1.Perm l ∧ q.2.Perm left) ∧ star [rangeAt it b kd q.1 q.2 cur] h := fun h ⟨m, lf, hp, hl, hm⟩ => ⟨(m, lf), ⟨hp, hl⟩, h, fun _ => none, fun _ => .inr rfl, sub.refl h, fun _ _ e => (by cases e), hm, trivial⟩
theorem c_next {f : Asn → List Asn} {it : Nat} {left : List (Value × Value)} {cur : Option (Value × Value)} (hx : ev env x = some (.pointer (some ⟨it, 0, none⟩))) (hc : Hole S (arange it b kd l left cur) f) (hN : ok N d)
  (hend : left = [] → TripL P N ops rest D ((d, .tuple #[.bool false]) :: env) (f (amap b kd l)) Q)
  (hstep : ∀ p l', left.Perm (p :: l') → p ∈ l → TripL P N ops rest D ((d, .tuple #[.bool true, p.1, p.2]) :: env) (f (arange it b kd l l' (some p))) Q) : TripL P N ops (⟨some d, .next x false, t, pos, aft, none⟩ :: rest) D env S Q := by
 obtain ⟨i, hi, hf⟩ := hc.at
 refine l_opn i hi arange_open fun q hq => ?_
 obtain ⟨m, lf⟩ := q
 obtain ⟨hp, hl⟩ := hq
 refine o_next i hx (at_put hi _) hN (fun he => ?_) fun l1 p l2' he hm => ?_
 ·rw [put_put]
  refine sub_put i (at_put hi _) (B := amap b kd l) (fun h hh => ⟨_, hp, hh⟩) ?_
  rw [put_put, hf]
  refine hend ?_
  have : lf = [] := he
  rw [this] at hl; exact List.nil_perm.1 hl
 ·rw [put_put]
  have he' : lf = l1 ++ p :: l2' := he
  refine sub_put i (at_put hi _) (B := arange it b kd l (l1 ++ l2') (some p)) (fun h hh => ⟨_, _, hp, .refl _, hh⟩) ?_
  rw [put_put, hf]
  refine hstep p _ ?_ (hp.mem_iff.1 hm)
  rw [he'] at hl
  exact hl.symm.trans List.perm_middle
theorem c_entry {it : Nat} {left : List (Value × Value)} {p : Value × Value} (hx : ev env x = some (.pointer (some ⟨it, 0, none⟩))) (hc : CAt S (arange it b kd l left (some p)) (arange it b kd l left (some p)) S') : QS P N D env S (.entry x) t (.tuple #[p.1, p.2]) := by
 obtain ⟨i, hi, _⟩ := hc.at
 refine QS.opn i hi arange_open fun q hq => ?_
 exact q_entry i hx (at_put hi _)
end
end Go.Ox
end
