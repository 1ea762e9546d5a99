/- WholeKept, part 42. No condition. -/
import Derived.Test.YtonpakokjgloaaaGreatOx41
set_option linter.all false
section
set_option maxRecDepth 100000
set_option maxHeartbeats 3200000
namespace Go.Ox
open Go Go.Proofs
theorem s_total0 (a : Option Addr) (c : Nat) : Spec Tryz.prog 58 [.slice a 0 c] [] (fun v S => v = .int .i64 0 ∧ S = []) := by
  refine spec_of Tryz.func58 rfl Tryz.results58 Tryz.ntmps58 rfl ?_
  refine t_same [] rfl ?_
  repeat' first | refine wk ?_ | refine wc ?_ ?_ <;> intro h <;> try omega | fail
  refine l_ent (ent_nil 187 2 _) ?_
  refine c_call (s_normal0 (own none 0 0 187 2 []) a c) rfl xpkd rfl rfl ?_
  rintro v S ⟨a2, c2, rfl, rfl⟩
  refine l_tell rfl ?_
  repeat' first | refine t_rounds 3 (rnd_succ ?_) | refine rnd_succ ?_ | refine wk ?_ | refine wc ?_ ?_ <;> intro h <;> try omega | fail
  exact b_ret [] rfl (fun _ _ => trivial) ⟨rfl, rfl⟩
def awM : List Pc := [⟨0, 0, 2, 0⟩, ⟨0, 2, 4, 0⟩]
theorem awM_ok : ScOk awM := ⟨by intro p hp; rcases List.mem_cons.1 hp with rfl | hp; · exact ⟨by decide, by decide, by decide⟩
                                 rw [List.mem_singleton.1 hp]; exact ⟨by decide, by decide, by decide⟩, by decide, by decide⟩
def awN : List Pc := [⟨0, 0, 6, 0⟩]
def awNV : List (List Value) := [[.int .i64 0, .int .i64 0, .int .i64 6]]
theorem awM_join : joinP awM = awN := rfl
theorem aw_s : ∀ p ∈ awL, p.s ≤ 1 := by
  intro p hp
  rcases List.mem_cons.1 hp with rfl | hp
  · decide
  · rw [List.mem_singleton.1 hp]; decide
theorem s_rbMove (tb tc lb lc : Nat) :
    Spec Tryz.prog 236 [.slice (some ⟨tb, 0, none⟩) 2 tc, .slice none 0 0, .int .i64 2, .slice (some ⟨lb, 0, none⟩) 2 lc] [own (some ⟨tb, 0, none⟩) 2 tc 85 3 (awLV), own (some ⟨lb, 0, none⟩) 2 lc 85 3 (awLV)] (fun v S => ∃ b c, v = .tuple #[.slice (some ⟨b, 0, none⟩) 1 c, .int .i64 0] ∧ S = [own (some ⟨b, 0, none⟩) 1 c 85 3 (awNV), own (some ⟨tb, 0, none⟩) 2 tc 85 3 (awLV), own (some ⟨lb, 0, none⟩) 2 lc 85 3 (awLV)]) := by
  refine spec_of Tryz.func236 rfl Tryz.results236 Tryz.ntmps236 rfl ?_
  repeat' first | refine wk ?_ | refine wc ?_ ?_ <;> intro h <;> try omega | fail
  refine c_call (s_rbMay (own (some ⟨tb, 0, none⟩) 2 tc 85 3 (awLV)) (some ⟨tb, 0, none⟩) 2 tc awL (Rds.own 0 rfl) rfl awL_ok aw_s) rfl xpkd rfl rfl ?_
  rintro v S ⟨rfl, rfl⟩
  refine l_tell rfl ?_
  repeat' first | refine wk ?_ | refine wc ?_ ?_ <;> intro h <;> try omega | fail
  refine c_call (s_rbMay (own (some ⟨lb, 0, none⟩) 2 lc 85 3 (awLV)) (some ⟨lb, 0, none⟩) 2 lc awL (Rds.own 0 rfl) rfl awL_ok aw_s) rfl xpkd rfl rfl ?_
  rintro v S ⟨rfl, rfl⟩
  refine l_tell rfl ?_
  repeat' first | refine wk ?_ | refine wc ?_ ?_ <;> intro h <;> try omega | fail
  refine c_call (s_right0 none 0) rfl .nil rfl rfl ?_
  rintro v S ⟨rfl, rfl⟩
  refine l_tell rfl ?_
  repeat' first | refine wk ?_ | refine wc ?_ ?_ <;> intro h <;> try omega | fail
  refine c_call (s_total0 none 0) rfl .nil rfl rfl ?_
  rintro v S ⟨rfl, rfl⟩
  refine l_tell rfl ?_
  repeat' first | refine wk ?_ | refine wc ?_ ?_ <;> intro h <;> try omega | fail
  refine c_call (s_rbFirst tb tc) rfl xpkd rfl rfl ?_
  rintro v S ⟨fb, fc, rfl, rfl⟩
  refine l_tell rfl ?_
  repeat' first | refine t_rounds 3 (rnd_succ ?_) | refine rnd_succ ?_ | refine wb fun _ => ?_ | refine wk ?_ | refine wc ?_ ?_ <;> intro h <;> try omega | refine l_qs (by (apply c_loadOA; exact rfl; (repeat (first | exact CAt.here | apply CAt.there)); exact rfl; exact rfl; exact rfl)) rfl ?_ | refine l_qs (by (apply c_loadO; exact rfl; (repeat (first | exact CAt.here | apply CAt.there)); exact rfl; exact rfl; exact rfl)) rfl ?_ | fail
  refine c_call (s_rbOne1 fb fc) rfl xpkd rfl rfl ?_
  rintro v S ⟨rfl, rfl⟩
  refine l_tell rfl ?_
  repeat' first | refine t_rounds 3 (rnd_succ ?_) | refine rnd_succ ?_ | refine wb fun _ => ?_ | refine wk ?_ | refine wc ?_ ?_ <;> intro h <;> try omega | refine l_qs (by (apply c_loadOA; exact rfl; (repeat (first | exact CAt.here | apply CAt.there)); exact rfl; exact rfl; exact rfl)) rfl ?_ | refine l_qs (by (apply c_loadO; exact rfl; (repeat (first | exact CAt.here | apply CAt.there)); exact rfl; exact rfl; exact rfl)) rfl ?_ | fail
  refine o_buildSlice rfl rfl rfl rfl rfl rfl rfl rfl rfl rfl rfl rfl fun pb4 => ?_
  repeat' first | refine wk ?_ | refine wc ?_ ?_ <;> intro h <;> try omega | fail
  refine c_appendN rfl rfl (own_rds (a := some ⟨pb4, 0, none⟩) xfnd) (by omega) rfl rfl rfl rfl rfl (by decide) (by omega) rfl fun b3 c3 => ?_
  repeat' first | refine t_rounds 3 (rnd_succ ?_) | refine rnd_succ ?_ | refine wb fun _ => ?_ | refine t_draw (id := 13) (.eval 0 true (.eval 1 false (.eval 2 true (.eval 3 false (.eval 4 true (.eval 5 true (.eval 6 false (.eval 7 true (.eval 8 false (.eval 9 true (.eval 10 true (.eff 11 [8] (.eval 12 true (.eff 13 [] .fin .stop)) .stop)))))))))))) rfl (by kernel_rfl) ?_ | refine wk ?_ | refine wc ?_ ?_ <;> intro h <;> try omega | refine l_qs (by (apply c_loadOA; exact rfl; (repeat (first | exact CAt.here | apply CAt.there)); exact rfl; exact rfl; exact rfl)) rfl ?_ | refine l_qs (by (apply c_loadO; exact rfl; (repeat (first | exact CAt.here | apply CAt.there)); exact rfl; exact rfl; exact rfl)) rfl ?_ | fail
  refine c_call (s_rbOne2 fb fc) rfl xpkd rfl rfl ?_
  rintro v S ⟨rfl, rfl⟩
  refine l_tell rfl ?_
  repeat' first | refine t_rounds 3 (rnd_succ ?_) | refine rnd_succ ?_ | refine wb fun _ => ?_ | refine wk ?_ | refine wc ?_ ?_ <;> intro h <;> try omega | refine l_qs (by (apply c_loadOA; exact rfl; (repeat (first | exact CAt.here | apply CAt.there)); exact rfl; exact rfl; exact rfl)) rfl ?_ | refine l_qs (by (apply c_loadO; exact rfl; (repeat (first | exact CAt.here | apply CAt.there)); exact rfl; exact rfl; exact rfl)) rfl ?_ | fail
  refine o_buildSlice rfl rfl rfl rfl rfl rfl rfl rfl rfl rfl rfl rfl fun pb5 => ?_
  repeat' first | refine wk ?_ | refine wc ?_ ?_ <;> intro h <;> try omega | fail
  refine c_appendS rfl rfl xhol (own_rds (a := some ⟨pb5, 0, none⟩) xfnd) (by omega) rfl rfl rfl rfl rfl (by decide) (by omega) rfl fun b7 c7 => ?_
  repeat' first | refine t_rounds 3 (rnd_succ ?_) | refine rnd_succ ?_ | refine wb fun _ => ?_ | refine t_draw (id := 13) (.eval 0 true (.eval 1 false (.eval 2 true (.eval 3 false (.eval 4 true (.eval 5 true (.eval 6 false (.eval 7 true (.eval 8 false (.eval 9 true (.eval 10 true (.eff 11 [8] (.eval 12 true (.eff 13 [] .fin .stop)) .stop)))))))))))) rfl (by kernel_rfl) ?_ | refine wk ?_ | refine wc ?_ ?_ <;> intro h <;> try omega | refine l_qs (by (apply c_loadOA; exact rfl; (repeat (first | exact CAt.here | apply CAt.there)); exact rfl; exact rfl; exact rfl)) rfl ?_ | refine l_qs (by (apply c_loadO; exact rfl; (repeat (first | exact CAt.here | apply CAt.there)); exact rfl; exact rfl; exact rfl)) rfl ?_ | fail
  refine c_call (s_scJoin (own (some ⟨b7, 0, none⟩) 2 c7 85 3 (scV awM)) (some ⟨b7, 0, none⟩) 2 c7 awM (Rds.own 0 rfl) rfl awM_ok) rfl xpkd rfl rfl ?_
  rintro v S ⟨a8, c8, rfl, rfl⟩
  rw [awM_join]
  refine l_tell rfl ?_
  refine l_fact (own_at (a := a8) xfnd (by show 1 ≤ 1; omega)) ?_
  rintro ⟨b8, rfl⟩
  repeat' first | refine wk ?_ | refine wc ?_ ?_ <;> intro h <;> try omega | fail
  exact b_ret [own (some ⟨b8, 0, none⟩) 1 c8 85 3 (awNV), own (some ⟨tb, 0, none⟩) 2 tc 85 3 (awLV), own (some ⟨lb, 0, none⟩) 2 lc 85 3 (awLV)] rfl (Ent.pick xpkd) ⟨b8, c8, rfl, rfl⟩
end Go.Ox
end
section
set_option maxRecDepth 100000
set_option maxHeartbeats 1600000
namespace Go.Ox
open Go Go.Proofs
def awR : List (Int × Int) := [(((3 : Nat) : Int), ((7 : Nat) : Int))]
theorem awR_eq : plR 0 awL = awR := rfl
theorem awR_ok : okR 1073741824 awR := fun x hx => by
 rw [List.mem_singleton.1 hx]; exact ⟨by decide, by decide, by decide⟩
theorem s_plAw (tb tc : Nat) :
  Spec Tryz.prog 321 [.slice (some ⟨tb, 0, none⟩) 2 tc, .int .i64 0] [own (some ⟨tb, 0, none⟩) 2 tc 85 3 awLV] (fun v S => ∃ b' c', v = .slice (some ⟨b', 0, none⟩) 1 c' ∧ S = [own (some ⟨b', 0, none⟩) 1 c' 187 2 (rgV awR), own (some ⟨tb, 0, none⟩) 2 tc 85 3 awLV]) := by
 refine (s_places (own (some ⟨tb, 0, none⟩) 2 tc 85 3 awLV) (some ⟨tb, 0, none⟩) 2 tc 0 awL (Rds.own 0 rfl) rfl awL_ok).someB ?_
 rintro v S ⟨a1, c1, l1, h1, -, rfl, rfl⟩
 rw [awR_eq] at h1
 rw [merged_one h1]
 exact ⟨_, own_at (a := a1) .here (by show 1 ≤ 1; omega), fun ⟨b, hb⟩ => ⟨_, Ent.refl _, b, c1, by rw [hb]; rfl, by rw [hb]; rfl⟩⟩
theorem s_eitherAw (a0 : Option Addr) (c0 b c : Nat) :
  Spec Tryz.prog 320 [.slice none 0 c0, .slice (some ⟨b, 0, none⟩) 1 c] [own (some ⟨b, 0, none⟩) 1 c 187 2 (rgV awR)] (fun v S => ∃ b' c', v = .slice (some ⟨b', 0, none⟩) 1 c' ∧ S = [own (some ⟨b', 0, none⟩) 1 c' 187 2 (rgV awR), own (some ⟨b, 0, none⟩) 1 c 187 2 (rgV awR)]) := by
 refine (((s_either (own none 0 0 187 2 []) (own (some ⟨b, 0, none⟩) 1 c 187 2 (rgV awR)) none (some ⟨b, 0, none⟩) 0 1 c0 c [] awR (Rds.nil _ _ _) (Rds.own 0 rfl) rfl rfl (by omega) (by omega) (fun x hx => by cases hx) awR_ok)).pre (ent_nil 187 2 _)).someB ?_
 rintro v S ⟨a1, c1, l1, h1, -, rfl, rfl⟩
 have e : merged l1 = awR := merged_one h1
 rw [e]
 refine ⟨_, own_at (a := a1) .here (by show 1 ≤ 1; omega), fun ⟨b', hb⟩ => ⟨[own (some ⟨b', 0, none⟩) 1 c1 187 2 (rgV awR), own (some ⟨b, 0, none⟩) 1 c 187 2 (rgV awR)], by rw [hb]; exact Ent.pick xpkd, b', c1, by rw [hb]; rfl, rfl⟩⟩
theorem s_rbRescue (tb tc lb lc LB LC : Nat) :
  Spec Tryz.prog 235 [.slice (some ⟨tb, 0, none⟩) 2 tc, .slice (some ⟨LB, 0, none⟩) 1 LC] [own (some ⟨tb, 0, none⟩) 2 tc 85 3 awLV, own (some ⟨lb, 0, none⟩) 2 lc 85 3 awLV, own (some ⟨LB, 0, none⟩) 1 LC 201 1 [[.slice (some ⟨lb, 0, none⟩) 2 lc]]] (fun v S => v = .tuple #[.slice none 0 0, .int .i64 0] ∧ S = [own (some ⟨tb, 0, none⟩) 2 tc 85 3 awLV, own (some ⟨lb, 0, none⟩) 2 lc 85 3 awLV, own (some ⟨LB, 0, none⟩) 1 LC 201 1 [[.slice (some ⟨lb, 0, none⟩) 2 lc]]]) := by
 refine spec_of Tryz.func235 rfl Tryz.results235 Tryz.ntmps235 rfl ?_
 repeat' first | refine wk ?_ | refine wc ?_ ?_ <;> intro h <;> try omega | fail
 refine c_call (s_rbMay (own (some ⟨tb, 0, none⟩) 2 tc 85 3 awLV) (some ⟨tb, 0, none⟩) 2 tc awL (Rds.own 0 rfl) rfl awL_ok aw_s) rfl xpkd rfl rfl ?_
 rintro v S ⟨rfl, rfl⟩
 refine l_tell rfl ?_
 repeat' first | refine t_rounds 3 (rnd_succ ?_) | refine rnd_succ ?_ | refine wb fun _ => ?_ | refine wk ?_ | refine wc ?_ ?_ <;> intro h <;> try omega | refine l_qs (by (apply c_loadOA; exact rfl; (repeat (first | exact CAt.here | apply CAt.there)); exact rfl; exact rfl; exact rfl)) rfl ?_ | refine l_qs (by (apply c_loadO; exact rfl; (repeat (first | exact CAt.here | apply CAt.there)); exact rfl; exact rfl; exact rfl)) rfl ?_ | fail
 refine c_call (s_rbMay (own (some ⟨lb, 0, none⟩) 2 lc 85 3 awLV) (some ⟨lb, 0, none⟩) 2 lc awL (Rds.own 0 rfl) rfl awL_ok aw_s) rfl xpkd rfl rfl ?_
 rintro v S ⟨rfl, rfl⟩
 refine l_tell rfl ?_
 repeat' first | refine wk ?_ | refine wc ?_ ?_ <;> intro h <;> try omega | fail
 refine c_call (s_plAw lb lc) rfl xpkd rfl rfl ?_
 rintro v S ⟨b1, c1, rfl, rfl⟩
 refine l_tell rfl ?_
 repeat' first | refine wk ?_ | refine wc ?_ ?_ <;> intro h <;> try omega | fail
 refine c_call (s_eitherAw none 0 b1 c1) rfl xpkd rfl rfl ?_
 rintro v S ⟨b2, c2, rfl, rfl⟩
 refine l_tell rfl ?_
 repeat' first | refine t_rounds 3 (rnd_succ ?_) | refine rnd_succ ?_ | refine wb fun _ => ?_ | refine wk ?_ | refine wc ?_ ?_ <;> intro h <;> try omega | refine l_qs (by (apply c_loadOA; exact rfl; (repeat (first | exact CAt.here | apply CAt.there)); exact rfl; exact rfl; exact rfl)) rfl ?_ | refine l_qs (by (apply c_loadO; exact rfl; (repeat (first | exact CAt.here | apply CAt.there)); exact rfl; exact rfl; exact rfl)) rfl ?_ | fail
 refine c_call (s_plAw tb tc) rfl xpkd rfl rfl ?_
 rintro v S ⟨b3, c3, rfl, rfl⟩
 refine l_tell rfl ?_
 repeat' first | refine wk ?_ | refine wc ?_ ?_ <;> intro h <;> try omega | fail
 refine c_call (s_less2 (own (some ⟨b2, 0, none⟩) 1 c2 187 2 (rgV awR)) (own (some ⟨b3, 0, none⟩) 1 c3 187 2 (rgV awR)) (some ⟨b2, 0, none⟩) (some ⟨b3, 0, none⟩) c2 c3 3 7 (by omega) (by omega) (Rds.own 0 rfl) (Rds.own 0 rfl)) rfl xpkd rfl rfl ?_
 rintro v S ⟨rfl, rfl⟩
 refine l_tell rfl ?_
 repeat' first | refine wk ?_ | refine wc ?_ ?_ <;> intro h <;> try omega | fail
 exact b_ret [own (some ⟨tb, 0, none⟩) 2 tc 85 3 awLV, own (some ⟨lb, 0, none⟩) 2 lc 85 3 awLV, own (some ⟨LB, 0, none⟩) 1 LC 201 1 [[.slice (some ⟨lb, 0, none⟩) 2 lc]]] rfl (Ent.pick xpkd) ⟨rfl, rfl⟩
end Go.Ox
end
section
set_option maxRecDepth 100000
set_option maxHeartbeats 1600000
namespace Go.Ox
open Go Go.Proofs
theorem Spec.fact {P : Program} {f : FuncId} {args : List Value} {Pre : List Asn} {R : Value → List Asn → Prop} {p : Prop} (hp : ∀ h, star Pre h → p) (k : p → Spec P f args Pre R) : Spec P f args Pre R :=
 fun G F w hw => k (hp _ (Ent.left Pre F _ hw.heap)) G F w hw
theorem own_leC {S S' : List Asn} {a : Option Addr} {n c e z : Nat} {els : List (List Value)} (hc : CAt S (own a n c e z els) (own a n c e z els) S') : ∀ h, star S h → n ≤ c := fun h hs => by
 obtain ⟨i, hi, _⟩ := hc.at
 obtain ⟨h1, h2, d, s1, s2, ⟨q1, q2, q3, q4, q5⟩, r⟩ := star_perm (perm_del hi) hs
 exact q3
def gdu (ops : List Oper) (env : KEnv) (g : Nat × Bool) : Bool :=
 match nthO ops g.1 with
 | some ⟨some x, _, _, _, _, _⟩ => match look env x with
  | some (.tuple _) => true
  | _ => false
 | _ => false
theorem l_guard_un {P : Program} {N : Nat} {ops rest : List Oper} {D : List Deferred} {env : KEnv} {S : List Asn} {Q : Post} {d : Tmp} {t : TypeId} {pos : String} {aft : Array Edge} {op : Op} {g : Nat × Bool} (hN : ok N d) (hg : gdu ops env g = true) (h : TripL P N ops rest D ((d, undef) :: env) S Q) :
  TripL P N ops (⟨some d, op, t, pos, aft, some g⟩ :: rest) D env S Q :=
 ⟨fun G F a w k => by
  have hw : Region.wanted ⟨some d, op, t, pos, aft, some g⟩ (yielded ops.toArray a.tmps) = false := by
   unfold gdu at hg
   rw [nthO_get] at hg
   split at hg
   ·rename_i x _ _ _ _ _ ho
    split at hg
    ·rename_i b hb
     have := k.env x _ hb
     simp only [Region.wanted, yielded, List.getElem?_toArray, ho, Option.bind_some, this]
     rfl
    ·cases hg
   ·cases hg
  unfold wpList
  rw [hw]
  refine h.run G F _ _ ⟨?_, k.env.put ?_, k.defers, k.sat⟩
  ·simp only [Act.put, Array.size_setIfInBounds]; exact k.size
  ·have := Nat.le_of_ble_eq_true hN; rw [k.size]; omega⟩
theorem q_slice3 {P : Program} {env : KEnv} {x : Operand} {t xt e : TypeId} {a : Option Addr} {n c z hi : Nat} [T : Tab P] {ti ei : TInf} (hx : ev env x = some (.slice a n c)) {h' m' : Operand} (hh : ev env h' = some (.int .i64 (.ofNat hi))) (hm : ev env m' = some (.int .i64 (.ofNat hi))) (hT : T.tab xt = some ti) (hd : ti.desc = .slice e) (hE : T.tab e = some ei) (hz : ei.size = z) (h2 : hi ≤ c) :
  QP P env (.slice xt x none (some h') (some m')) t (.slice a hi hi) :=
 .mk fun ρ h w d pos aft => by
  have hu := r_under (P := P) w hT
  rw [hd] at hu
  have hs := r_size (P := P) w hE
  simp [execOp, h x _ hx, h h' _ hh, h m' _ hm, Instr.sliceAt, Instr.slice, hu, Instr.sliceBounds, Instr.sliceBound, asIntOf, h2, hs, hz]
  cases a <;> simp [Addr.add]
theorem s_mvBlocks (n : Nat) (hn : n ≤ 1073741824) : Spec Tryz.prog 241 [.int .i64 (n : Int)] [] (fun v S => v = .int .i64 (((n + 63) / 64 : Nat) : Int) ∧ S = []) := by
 refine spec_of Tryz.func241 rfl Tryz.results241 Tryz.ntmps241 rfl ?_
 refine t_same [] rfl ?_
 repeat' first | refine wk ?_ | refine wc ?_ ?_ <;> intro h <;> try omega | fail
 have e : (((n + 63) / 64 : Nat) : Int) = ((n : Int) + 64 - 1) / 64 := by omega
 exact b_ret [] rfl (fun _ _ => trivial) ⟨by rw [e]; rfl, rfl⟩
theorem s_mvLength (b n : Nat) (hb : b ≤ 1073741824) (hn : n ≤ 1073741824) : Spec Tryz.prog 243 [.int .i64 (b : Int), .int .i64 (n : Int)] [] (fun v S => v = .int .i64 (min 64 ((n : Int) - (b : Int) * 64)) ∧ S = []) := by
 refine spec_of Tryz.func243 rfl Tryz.results243 Tryz.ntmps243 rfl ?_
 refine t_same [] rfl ?_
 repeat' first | refine wk ?_ | refine wc ?_ ?_ <;> intro h <;> try omega | fail
 exact b_ret [] rfl (fun _ _ => trivial) ⟨rfl, rfl⟩
theorem s_mvWithin (s a n m : Nat) (h : a + n ≤ m) (hm : m ≤ 1073741824) : Spec Tryz.prog 239 [.agg #[.int .i64 (s : Int), .int .i64 (a : Int), .int .i64 (n : Int)], .int .i64 (m : Int)] [] (fun v S => v = .bool true ∧ S = []) := by
 refine spec_of Tryz.func239 rfl Tryz.results239 Tryz.ntmps239 rfl ?_
 refine t_same [] rfl ?_
 show Trip _ _ _ _ (numF 0 [.agg #[.int .i64 (s : Int), .int .i64 (a : Int), .int .i64 (n : Int)], .int .i64 (m : Int)]) _ _
 repeat' first | refine wb fun _ => ?_ | refine wk ?_ | refine wc ?_ ?_ <;> intro h <;> try omega | fail
 exact b_ret [] rfl (fun _ _ => trivial) ⟨rfl, rfl⟩
section
variable (tb tc : Nat)
theorem s_scPart1 :
  Spec Tryz.prog 330 [.slice (some ⟨tb, 0, none⟩) 2 tc, .int .i64 0, .int .i64 6] [own (some ⟨tb, 0, none⟩) 2 tc 85 3 awLV] (fun v S => ∃ b c, v = .slice (some ⟨b, 0, none⟩) 2 c ∧ S = [own (some ⟨b, 0, none⟩) 2 c 85 3 awLV, own (some ⟨tb, 0, none⟩) 2 tc 85 3 awLV]) := by
 refine spec_of Tryz.func330 rfl Tryz.results330 Tryz.ntmps330 rfl ?_
 repeat' first | refine t_rounds 3 (rnd_succ ?_) | refine rnd_succ ?_ | refine wb fun _ => ?_ | refine o_buildSlice rfl rfl rfl rfl rfl rfl rfl rfl rfl rfl rfl rfl fun _ => ?_ | (apply c_appendN; exact rfl; exact rfl; (apply own_rds; repeat (first | exact CAt.here | apply CAt.there)); omega; exact rfl; exact rfl; exact rfl; exact rfl; exact rfl; decide; omega; exact rfl; intro _ _) | (apply c_appendS; exact rfl; exact rfl; (repeat (first | exact Hole.here | apply Hole.there)); (apply own_rds; repeat (first | exact CAt.here | apply CAt.there)); omega; exact rfl; exact rfl; exact rfl; exact rfl; exact rfl; decide; omega; exact rfl; intro _ _) | refine t_draw (id := 6) (.eval 0 true (.eval 1 true (.eval 2 true (.eval 3 true (.eval 4 false (.eval 5 true (.eff 6 [4] (.eff 7 [] .fin .stop) .stop))))))) rfl (by kernel_rfl) ?_ | refine t_draw (id := 8) (.eval 0 true (.eval 1 true (.eval 2 false (.eval 3 true (.eval 4 true (.eval 5 true (.eval 6 false (.eval 7 true (.eff 8 [6] (.eff 9 [] .fin .stop) .stop))))))))) rfl (by kernel_rfl) ?_ | refine wk ?_ | refine wc ?_ ?_ <;> intro h <;> try omega | refine l_qs (by (apply c_loadOA; exact rfl; (repeat (first | exact CAt.here | apply CAt.there)); exact rfl; exact rfl; exact rfl)) rfl ?_ | refine l_qs (by (apply c_loadO; exact rfl; (repeat (first | exact CAt.here | apply CAt.there)); exact rfl; exact rfl; exact rfl)) rfl ?_ | fail
 exact b_ret [own (some ⟨_, 0, none⟩) 2 _ 85 3 awLV, own (some ⟨tb, 0, none⟩) 2 tc 85 3 awLV] rfl (Ent.pick xpkd) ⟨_, _, rfl, rfl⟩
theorem s_scPart2 :
  Spec Tryz.prog 330 [.slice (some ⟨tb, 0, none⟩) 2 tc, .int .i64 6, .int .i64 6] [own (some ⟨tb, 0, none⟩) 2 tc 85 3 awLV] (fun v S => v = .slice none 0 0 ∧ S = [own (some ⟨tb, 0, none⟩) 2 tc 85 3 awLV]) := by
 refine spec_of Tryz.func330 rfl Tryz.results330 Tryz.ntmps330 rfl ?_
 repeat' first | refine t_rounds 3 (rnd_succ ?_) | refine rnd_succ ?_ | refine wb fun _ => ?_ | refine o_buildSlice rfl rfl rfl rfl rfl rfl rfl rfl rfl rfl rfl rfl fun _ => ?_ | (apply c_appendN; exact rfl; exact rfl; (apply own_rds; repeat (first | exact CAt.here | apply CAt.there)); omega; exact rfl; exact rfl; exact rfl; exact rfl; exact rfl; decide; omega; exact rfl; intro _ _) | (apply c_appendS; exact rfl; exact rfl; (repeat (first | exact Hole.here | apply Hole.there)); (apply own_rds; repeat (first | exact CAt.here | apply CAt.there)); omega; exact rfl; exact rfl; exact rfl; exact rfl; exact rfl; decide; omega; exact rfl; intro _ _) | refine t_draw (id := 6) (.eval 0 true (.eval 1 true (.eval 2 true (.eval 3 true (.eval 4 false (.eval 5 true (.eff 6 [4] (.eff 7 [] .fin .stop) .stop))))))) rfl (by kernel_rfl) ?_ | refine t_draw (id := 8) (.eval 0 true (.eval 1 true (.eval 2 false (.eval 3 true (.eval 4 true (.eval 5 true (.eval 6 false (.eval 7 true (.eff 8 [6] (.eff 9 [] .fin .stop) .stop))))))))) rfl (by kernel_rfl) ?_ | refine wk ?_ | refine wc ?_ ?_ <;> intro h <;> try omega | refine l_qs (by (apply c_loadOA; exact rfl; (repeat (first | exact CAt.here | apply CAt.there)); exact rfl; exact rfl; exact rfl)) rfl ?_ | refine l_qs (by (apply c_loadO; exact rfl; (repeat (first | exact CAt.here | apply CAt.there)); exact rfl; exact rfl; exact rfl)) rfl ?_ | fail
 exact b_ret [own (some ⟨tb, 0, none⟩) 2 tc 85 3 awLV] rfl (Ent.pick xpkd) ⟨rfl, rfl⟩
end
end Go.Ox
end
section
set_option maxRecDepth 100000
set_option maxHeartbeats 1600000
namespace Go.Ox
open Go Go.Proofs
def awRV : List (List Value) := [[.int .i64 3, .int .i64 7]]
theorem s_less1Aw (a c c0 : Nat) :
  Spec Tryz.prog 322 [.slice (some ⟨a, 0, none⟩) 1 c, .slice none 0 c0] [own (some ⟨a, 0, none⟩) 1 c 187 2 awRV] (fun v S => ∃ (b' c' : Nat), v = .slice (some ⟨b', 0, none⟩) 1 c' ∧ S = [own (some ⟨b', 0, none⟩) 1 c' 187 2 awRV, own (some ⟨a, 0, none⟩) 1 c 187 2 awRV]) := by
 refine (s_less1 (own (some ⟨a, 0, none⟩) 1 c 187 2 awRV) (some ⟨a, 0, none⟩) none c c0 3 7 (by omega) (by omega) (Rds.own 0 rfl)).someB ?_
 rintro v S ⟨a1, c1, rfl, rfl⟩
 exact ⟨_, own_at (a := a1) .here (by show 1 ≤ 1; omega), fun ⟨b, hb⟩ => ⟨_, Ent.refl _, b, c1, by rw [hb], by rw [hb]; rfl⟩⟩
theorem aw_join : joinP awL = awL := rfl
theorem s_joinAw (B a : Nat) (c : Nat) :
  Spec Tryz.prog 329 [.slice (some ⟨B, 0, none⟩) 1 1] [own (some ⟨B, 0, none⟩) 1 1 201 1 [[.slice (some ⟨a, 0, none⟩) 2 c]], own (some ⟨a, 0, none⟩) 2 c 85 3 awLV]
   (fun v S => ∃ (b' c' : Nat), v = .slice (some ⟨b', 0, none⟩) 2 c' ∧ S = [own (some ⟨b', 0, none⟩) 2 c' 85 3 awLV, own (some ⟨a, 0, none⟩) 2 c 85 3 awLV]) := by
 refine (s_joined (own (some ⟨a, 0, none⟩) 2 c 85 3 awLV) B (some ⟨a, 0, none⟩) 2 c awL (Rds.own 0 rfl) rfl awL_ok).someB ?_
 rintro v S ⟨a1, c1, rfl, rfl⟩
 rw [aw_join]
 exact ⟨_, own_at (a := a1) .here (by show 1 ≤ 2; omega), fun ⟨b, hb⟩ => ⟨_, Ent.refl _, b, c1, by rw [hb]; rfl, by rw [hb]; rfl⟩⟩
theorem s_join0 (B : Nat) (a : Option Addr) (c : Nat) :
  Spec Tryz.prog 329 [.slice (some ⟨B, 0, none⟩) 1 1] [own (some ⟨B, 0, none⟩) 1 1 201 1 [[.slice a 0 c]]]
   (fun v S => ∃ (a' : Option Addr) (c' : Nat), v = .slice a' 0 c' ∧ S = []) := by
 refine ((s_joined (own none 0 0 85 3 []) B a 0 c [] (Rds.nil _ _ _) rfl ⟨fun p hp => (by cases hp), by decide, by decide⟩).pre (Ent.trans (ent_nil 85 3 _) (Ent.perm (.swap _ _ _)))).someB ?_
 rintro v S ⟨a1, c1, rfl, rfl⟩
 exact ⟨True, fun _ _ => trivial, fun _ => ⟨[], fun _ _ => trivial, a1, c1, rfl, rfl⟩⟩
section
variable (tb tc : Nat)
theorem s_scCut :
  Spec Tryz.prog 242 [.slice (some ⟨tb, 0, none⟩) 2 tc, .int .i64 6] [own (some ⟨tb, 0, none⟩) 2 tc 85 3 awLV] (fun v S => ∃ b c a' c', v = .tuple #[.slice (some ⟨b, 0, none⟩) 2 c, .slice a' 0 c', .int .i64 0] ∧ S = [own (some ⟨b, 0, none⟩) 2 c 85 3 awLV, own (some ⟨tb, 0, none⟩) 2 tc 85 3 awLV]) := by
 refine spec_of Tryz.func242 rfl Tryz.results242 Tryz.ntmps242 rfl ?_
 repeat' first | refine wk ?_ | refine wc ?_ ?_ <;> intro h <;> try omega | fail
 refine c_call (s_scMay (own (some ⟨tb, 0, none⟩) 2 tc 85 3 awLV) (some ⟨tb, 0, none⟩) 2 tc awL (Rds.own 0 rfl) rfl awL_ok) rfl xpkd rfl rfl ?_
 rintro v S ⟨rfl, rfl⟩
 refine l_tell rfl ?_
 repeat' first | refine wk ?_ | refine wc ?_ ?_ <;> intro h <;> try omega | fail
 refine c_call (s_scsize (own (some ⟨tb, 0, none⟩) 2 tc 85 3 awLV) (some ⟨tb, 0, none⟩) 2 tc awL (Rds.own 0 rfl) rfl awL_ok) rfl xpkd rfl rfl ?_
 rintro v S ⟨rfl, rfl⟩
 rw [show ((sumN awL : Nat) : Int) = 6 from rfl]
 refine l_tell rfl ?_
 repeat' first | refine wk ?_ | refine wc ?_ ?_ <;> intro h <;> try omega | fail
 refine c_call (s_scPart1 tb tc) rfl xpkd rfl rfl ?_
 rintro v S ⟨b1, c1, rfl, rfl⟩
 refine l_tell rfl ?_
 repeat' first | refine o_buildSlice rfl rfl rfl rfl rfl rfl rfl rfl rfl rfl rfl rfl fun _ => ?_ | refine wk ?_ | refine wc ?_ ?_ <;> intro h <;> try omega | fail
 refine c_call (s_joinAw _ b1 c1) rfl xpkd rfl rfl ?_
 rintro v S ⟨b2, c2, rfl, rfl⟩
 refine l_tell rfl ?_
 repeat' first | refine wk ?_ | refine wc ?_ ?_ <;> intro h <;> try omega | fail
 refine c_call (s_scPart2 tb tc) rfl xpkd rfl rfl ?_
 rintro v S ⟨rfl, rfl⟩
 refine l_tell rfl ?_
 repeat' first | refine o_buildSlice rfl rfl rfl rfl rfl rfl rfl rfl rfl rfl rfl rfl fun _ => ?_ | refine wk ?_ | refine wc ?_ ?_ <;> intro h <;> try omega | fail
 refine c_call (s_join0 _ none 0) rfl xpkd rfl rfl ?_
 rintro v S ⟨a3, c3, rfl, rfl⟩
 refine l_tell rfl ?_
 repeat' first | refine wk ?_ | refine wc ?_ ?_ <;> intro h <;> try omega | fail
 exact b_ret [own (some ⟨b2, 0, none⟩) 2 c2 85 3 awLV, own (some ⟨tb, 0, none⟩) 2 tc 85 3 awLV] rfl (Ent.pick xpkd) ⟨b2, c2, a3, c3, rfl, rfl⟩
def wkC (w : Nat) (ms mr : Nat) (or_ : Value) : Asn := cellsAt w 336 [.map (some ms), .map (some mr), .slice none 0 0, or_]
theorem s_mvReads (w ms mr : Nat) (or_ : Value) :
  Spec Tryz.prog 244 [.pointer (some ⟨w, 0, none⟩), .agg #[.int .i64 0, .slice (some ⟨tb, 0, none⟩) 2 tc]] [wkC w ms mr or_, own (some ⟨tb, 0, none⟩) 2 tc 85 3 awLV] (fun v S => v = .slice none 0 0 ∧ S = [wkC w ms mr or_, own (some ⟨tb, 0, none⟩) 2 tc 85 3 awLV]) := by
 refine spec_of Tryz.func244 rfl Tryz.results244 Tryz.ntmps244 rfl ?_
 refine t_same [cellsAt w 336 [.map (some ms), .map (some mr), .slice none 0 0, or_], own (some ⟨tb, 0, none⟩) 2 tc 85 3 awLV] rfl ?_
 repeat' first | refine t_rounds 3 (rnd_succ ?_) | refine rnd_succ ?_ | refine wb fun _ => ?_ | refine o_buildSlice rfl rfl rfl rfl rfl rfl rfl rfl rfl rfl rfl rfl fun _ => ?_ | (apply c_appendN; exact rfl; exact rfl; (apply own_rds; repeat (first | exact CAt.here | apply CAt.there)); omega; exact rfl; exact rfl; exact rfl; exact rfl; exact rfl; decide; omega; exact rfl; intro _ _) | refine wk ?_ | refine wc ?_ ?_ <;> intro h <;> try omega | refine l_qs (by (apply c_loadOA; exact rfl; (repeat (first | exact CAt.here | apply CAt.there)); exact rfl; exact rfl; exact rfl)) rfl ?_ | refine l_qs (by (apply c_loadO; exact rfl; (repeat (first | exact CAt.here | apply CAt.there)); exact rfl; exact rfl; exact rfl)) rfl ?_ | fail
 refine c_call (s_less1Aw _ _ 0) rfl xpkd rfl rfl ?_
 rintro v S ⟨b1, c1, rfl, rfl⟩
 refine l_tell rfl ?_
 repeat' first | refine t_rounds 3 (rnd_succ ?_) | refine rnd_succ ?_ | refine wb fun _ => ?_ | refine o_buildSlice rfl rfl rfl rfl rfl rfl rfl rfl rfl rfl rfl rfl fun _ => ?_ | (apply c_appendN; exact rfl; exact rfl; (apply own_rds; repeat (first | exact CAt.here | apply CAt.there)); omega; exact rfl; exact rfl; exact rfl; exact rfl; exact rfl; decide; omega; exact rfl; intro _ _) | refine l_guard_un rfl rfl ?_ | refine wk ?_ | refine wc ?_ ?_ <;> intro h <;> try omega | refine l_qs (by (apply c_loadOA; exact rfl; (repeat (first | exact CAt.here | apply CAt.there)); exact rfl; exact rfl; exact rfl)) rfl ?_ | refine l_qs (by (apply c_loadO; exact rfl; (repeat (first | exact CAt.here | apply CAt.there)); exact rfl; exact rfl; exact rfl)) rfl ?_ | fail
 exact b_ret [cellsAt w 336 [.map (some ms), .map (some mr), .slice none 0 0, or_], own (some ⟨tb, 0, none⟩) 2 tc 85 3 awLV] rfl (Ent.pick xpkd) ⟨rfl, rfl⟩
theorem s_mvMoved :
  Spec Tryz.prog 332 [.slice (some ⟨tb, 0, none⟩) 2 tc, .slice none 0 0] [own (some ⟨tb, 0, none⟩) 2 tc 85 3 awLV] (fun v S => ∃ b c, v = .slice (some ⟨b, 0, none⟩) 2 c ∧ S = [own (some ⟨b, 0, none⟩) 2 c 85 3 awLV, own (some ⟨tb, 0, none⟩) 2 tc 85 3 awLV]) := by
 refine spec_of Tryz.func332 rfl Tryz.results332 Tryz.ntmps332 rfl ?_
 repeat' first | refine t_rounds 3 (rnd_succ ?_) | refine rnd_succ ?_ | refine wb fun _ => ?_ | refine o_buildSlice rfl rfl rfl rfl rfl rfl rfl rfl rfl rfl rfl rfl fun _ => ?_ | (apply c_appendN; exact rfl; exact rfl; (apply own_rds; repeat (first | exact CAt.here | apply CAt.there)); omega; exact rfl; exact rfl; exact rfl; exact rfl; exact rfl; decide; omega; exact rfl; intro _ _) | (apply c_appendS; exact rfl; exact rfl; (repeat (first | exact Hole.here | apply Hole.there)); (apply own_rds; repeat (first | exact CAt.here | apply CAt.there)); omega; exact rfl; exact rfl; exact rfl; exact rfl; exact rfl; decide; omega; exact rfl; intro _ _) | refine wk ?_ | refine wc ?_ ?_ <;> intro h <;> try omega | refine l_qs (by (apply c_loadOA; exact rfl; (repeat (first | exact CAt.here | apply CAt.there)); exact rfl; exact rfl; exact rfl)) rfl ?_ | refine l_qs (by (apply c_loadO; exact rfl; (repeat (first | exact CAt.here | apply CAt.there)); exact rfl; exact rfl; exact rfl)) rfl ?_ | fail
 refine c_call (s_scJoin (own (some ⟨_, 0, none⟩) 2 _ 85 3 awLV) (some ⟨_, 0, none⟩) 2 _ awL (Rds.own 0 rfl) rfl awL_ok) rfl xpkd rfl rfl ?_
 rintro v S ⟨a8, c8, rfl, rfl⟩
 rw [aw_join]
 refine l_tell rfl ?_
 refine l_fact (own_at (a := a8) xfnd (by show 1 ≤ 2; omega)) ?_
 rintro ⟨b8, rfl⟩
 repeat' first | refine wk ?_ | refine wc ?_ ?_ <;> intro h <;> try omega | fail
 exact b_ret [own (some ⟨b8, 0, none⟩) 2 c8 85 3 awLV, own (some ⟨tb, 0, none⟩) 2 tc 85 3 awLV] rfl (Ent.pick xpkd) ⟨b8, c8, rfl, rfl⟩
end
end Go.Ox
end
