/- WholeKept, part 37. No condition. -/
import Derived.Test.YtonpakokjgloaaaGreatOx36
set_option linter.all false
section
set_option maxRecDepth 100000
set_option maxHeartbeats 800000
namespace Go.Ox
open Go Go.Proofs
theorem s_found0 (d room fu : Nat) (o s t : Option (List Nat)) : Spec Tryz.prog 187 [.pointer (some ⟨d, 0, none⟩)] [dskC d room ⟨o, s, t, none⟩ fu] (fun v S => v = .tuple #[.pointer none, .agg #[.int .i64 0, .bool false, .int .i64 0, .int .u32 0], .bool false] ∧ S = [dskC d room ⟨o, s, t, none⟩ fu]) := by
 refine spec_of_d Tryz.func187 rfl Tryz.results187 Tryz.ntmps187 rfl ?_
 repeat' first | refine wk ?_ | refine wc ?_ ?_ <;> intro h <;> try omega | fail
 refine o_alloc rfl rfl fun rb => ?_
 repeat' first | refine wk ?_ | refine wc ?_ ?_ <;> intro h <;> try omega | fail
 refine c_call (s_ssize d room fu ⟨o, s, t, none⟩ .j) rfl xpkd rfl rfl ?_
 rintro v S ⟨rfl, rfl⟩
 refine l_tell rfl ?_
 repeat' first | refine wk ?_ | refine wc ?_ ?_ <;> intro h <;> try omega | fail
 refine c_call (s_read4_no d room fu ⟨o, s, t, none⟩ .j _ _ rfl) rfl xpkd rfl rfl ?_
 rintro v S ⟨rfl, rfl⟩
 refine l_tell rfl ?_
 repeat' first | refine wk ?_ | refine wc ?_ ?_ <;> intro h <;> try omega | fail
 refine c_call s_openHead0 rfl xpkd rfl rfl ?_
 rintro v S ⟨rfl, rfl⟩
 refine l_tell rfl ?_
 repeat' first | refine wk ?_ | refine wc ?_ ?_ <;> intro h <;> try omega | fail
 refine o_alloc rfl rfl fun qb => ?_
 repeat' first | refine wk ?_ | refine wc ?_ ?_ <;> intro h <;> try omega | fail
 refine t_draw (id := 6) (.eval 0 false (.eff 1 [0] (.eff 2 [] (.eff 3 [] .fin .stop) .stop) .stop)) rfl (by kernel_rfl) ?_
 repeat' first | refine wk ?_ | refine wc ?_ ?_ <;> intro h <;> try omega | fail
 exact bd_ret (out_nil [dskC d room ⟨o, s, t, none⟩ fu] (.cons (.tmp rfl) (.cons (.cell fun N D => c_loadA (b := rb) rfl xfnd rfl rfl rfl) (.cons (.tmp rfl) .nil))) (Ent.pick xpkd) ⟨rfl, rfl⟩)
theorem s_recover1 (d room fu b1 b2 : Nat) (o s t : Option (List Nat)) (f : Bool) : Spec Tryz.prog 186 [.pointer (some ⟨b1, 0, none⟩), .pointer (some ⟨b2, 0, none⟩)] [dskC d room ⟨o, s, t, none⟩ fu, cellsAt b1 30 [.pointer (some ⟨d, 0, none⟩)], cellsAt b2 4 [.bool f]] (fun v S => S = [dskC d room ⟨o, s, t, none⟩ fu, cellsAt b1 30 [.pointer (some ⟨d, 0, none⟩)], cellsAt b2 4 [.bool f]]) := by
 refine spec_of Tryz.func186 rfl Tryz.results186 Tryz.ntmps186 rfl ?_
 repeat' first | refine wk ?_ | refine wc ?_ ?_ <;> intro h <;> try omega | fail
 refine c_call (s_found0 d room fu o s t) rfl xpkd rfl rfl ?_
 rintro v S ⟨rfl, rfl⟩
 refine l_tell rfl ?_
 repeat' first | refine wk ?_ | refine wc ?_ ?_ <;> intro h <;> try omega | fail
 refine o_alloc rfl rfl fun qb => ?_
 repeat' first | refine wk ?_ | refine wc ?_ ?_ <;> intro h <;> try omega | fail
 exact b_end [dskC d room ⟨o, s, t, none⟩ fu, cellsAt b1 30 [.pointer (some ⟨d, 0, none⟩)], cellsAt b2 4 [.bool f]] rfl (Ent.pick xpkd) rfl
theorem s_recover0 (d room fu : Nat) (o s t : Option (List Nat)) : Spec Tryz.prog 123 [.pointer (some ⟨d, 0, none⟩)] [dskC d room ⟨o, s, t, none⟩ fu] (fun v S => v = .tuple #[.bool false, .int .i64 0] ∧ S = [dskC d room ⟨o, s, t, none⟩ fu]) := by
 refine spec_of_d Tryz.func123 rfl Tryz.results123 Tryz.ntmps123 rfl ?_
 repeat' first | refine wk ?_ | refine wc ?_ ?_ <;> intro h <;> try omega | fail
 refine o_box rfl rfl rfl fun b1 => ?_
 refine o_alloc rfl rfl fun b2 => ?_
 repeat' first | refine wk ?_ | refine wc ?_ ?_ <;> intro h <;> try omega | fail
 refine c_call (s_down4 d room fu ⟨o, s, t, none⟩) rfl xpkd rfl rfl ?_
 rintro v S ⟨rfl, rfl⟩
 refine l_tell rfl ?_
 repeat' first | refine wk ?_ | refine wc ?_ ?_ <;> intro h <;> try omega | fail
 refine c_call (s_tried 186 [] [.pointer (some ⟨b1, 0, none⟩), .pointer (some ⟨b2, 0, none⟩)] _ _ (s_recover1 d room fu b1 b2 o s t false) rfl) rfl xpkd rfl rfl ?_
 rintro v S ⟨rfl, rfl⟩
 refine l_tell rfl ?_
 repeat' first | refine wk ?_ | refine wc ?_ ?_ <;> intro h <;> try omega | fail
 exact bd_ret (out_nil [dskC d room ⟨o, s, t, none⟩ fu] (.cons (.cell fun N D => c_load (b := b2) rfl xfnd rfl rfl rfl) (.cons (.tmp rfl) .nil)) (Ent.pick xpkd) ⟨rfl, rfl⟩)
end Go.Ox
end
section
set_option maxRecDepth 100000
set_option maxHeartbeats 800000
namespace Go.Ox
open Go Go.Proofs
structure VO where
 tv : Value
 lv : Value
 pa : Option Addr
 pc : Nat
 cur : Nat
 vs : List Vn
 su : Su
 nx : Su
 ka : Option Addr
 kn : Nat
 kc : Nat
 Rest : List Asn
def VO.ok (q : VO) : Prop := q.cur < q.vs.length ∧ q.vs.length ≤ 16 ∧ ∀ v ∈ q.vs, v.ok
def VO.L (q : VO) (V cc s T d : Nat) : List Asn := vaC V cc s T d q.tv q.lv q.pa q.vs.length q.pc q.cur q.su q.nx q.ka q.kn q.kc :: own q.pa q.vs.length q.pc 182 2 (vsV q.vs) :: q.Rest
def VO.at (q : VO) : Vn := q.vs.getD q.cur ⟨0, 0⟩
theorem s_eOpen (d room cap n most fu : Nat) (o : Option (List Nat)) (h1 : 4 ≤ cap) (h2 : cap ≤ 4096) (hm1 : 1 ≤ most) (hm2 : most ≤ 16) (R : Nat → Nat → Nat → Nat → VO → Prop)
  (hlay : ∀ V cc s T, Spec Tryz.prog 191 [.pointer (some ⟨V, 0, none⟩)] [vaC V cc s T d (.pointer none) (.pointer none) none 0 0 0 su0 su0 none 0 0, spC s [] 0, stC ⟨cc, d, room, cap, n, o, none, none⟩ (fun _ => none) 0 fu, trC T cc s] (fun v S => v = .int .i64 0 ∧ ∃ q : VO, q.ok ∧ R V cc s T q ∧ S = q.L V cc s T d)) :
  Spec Tryz.prog 73 [.pointer (some ⟨d, 0, none⟩), .int .i64 cap, .int .i64 most] [dskC d room ⟨o, none, none, none⟩ fu]
   (fun v S => ∃ E V cc s T q, q.ok ∧ R V cc s T q ∧ v = .tuple #[.pointer (some ⟨E, 0, none⟩), .int .i64 0] ∧ S = edC E V d most q.at.r q.at.b false :: q.L V cc s T d) := by
 refine spec_of Tryz.func73 rfl Tryz.results73 Tryz.ntmps73 rfl ?_
 repeat' first | refine wk ?_ | refine wc ?_ ?_ <;> intro h <;> try omega | fail
 refine c_call (s_recover0 d room fu o none none) rfl xpkd rfl rfl ?_
 rintro v S ⟨rfl, rfl⟩
 refine l_tell rfl ?_
 repeat' first | refine wk ?_ | refine wc ?_ ?_ <;> intro h <;> try omega | fail
 refine c_call (s_vopen d room cap n fu o h1 h2 _ hlay) rfl xpkd rfl rfl ?_
 rintro v S ⟨V, cc, s, T, rfl, q, hq, hR, rfl⟩
 rw [List.append_nil, VO.L]
 repeat' first | refine wk ?_ | refine wc ?_ ?_ <;> intro h <;> try omega | fail
 refine o_box rfl rfl rfl fun E => ?_
 repeat' first | refine wk ?_ | refine wc ?_ ?_ <;> intro h <;> try omega | fail
 have hq' := hq
 obtain ⟨q1, q2, q3⟩ := hq
 refine c_call (s_estand E V d most 0 0 cc s T d false q.tv q.lv q.pa q.pc q.cur q.vs q.su q.nx q.ka q.kn q.kc q2 q1 q3) rfl xpkd rfl rfl ?_
 rintro v S ⟨rfl, rfl⟩
 repeat' first | refine wk ?_ | refine wc ?_ ?_ <;> intro h <;> try omega | fail
 have hat : q.vs[q.cur] = q.at := by unfold VO.at; rw [List.getD_eq_getElem?_getD, List.getElem?_eq_getElem q1]; rfl
 rw [hat]
 exact b_ret (edC E V d most q.at.r q.at.b false :: q.L V cc s T d) rfl (Ent.refl _) ⟨E, V, cc, s, T, q, hq', hR, rfl, rfl⟩
end Go.Ox
end
section
set_option maxRecDepth 100000
namespace Go.Ox
open Go Go.Proofs
def pk0 (z : Int) (n : Nat) : Nat := (z % (n : Int)).toNat
theorem pk0_lt (z : Int) (n : Nat) (h : 1 ≤ n) : pk0 z n < n := by
 unfold pk0
 have h1 := Int.emod_nonneg z (show (n : Int) ≠ 0 by omega)
 have h2 := Int.emod_lt_of_pos z (show (0 : Int) < n by omega)
 omega
theorem q_remT {P : Program} {env : KEnv} {x y : Operand} {xt yt t : TypeId} {m n : Int} (hx : ev env x = some (.int .i64 m)) (hy : ev env y = some (.int .i64 n)) (h2 : 0 < n) : QP P env (.binOp .rem xt x y yt) t (.int .i64 (m.tmod n)) := .mk fun ρ h w d pos aft => by
 have hn : n ≠ 0 := by omega
 simp [execOp, h x _ hx, h y _ hy, eqGuard, binOp, Op.intDiv, hn]
theorem tmod_fix (z n : Int) (hn : n = 16 ∨ n = 40) : (if z.tmod n < 0 then z.tmod n + n else z.tmod n) = z % n ∧ -100 ≤ z.tmod n ∧ z.tmod n ≤ 100 := by
 rcases Int.le_total 0 z with h | h
 ·have e := Int.tmod_eq_emod_of_nonneg (b := n) h
  rcases hn with rfl | rfl <;> (rw [e]; split <;> omega)
 ·have e1 := Int.neg_tmod (-z) n
  rw [Int.neg_neg, Int.tmod_eq_emod_of_nonneg (b := n) (show 0 ≤ -z by omega)] at e1
  rcases hn with rfl | rfl <;> (rw [e1]; split <;> omega)
theorem s_pick (z : Int) (n : Nat) (hn : n = 16 ∨ n = 40) : Spec Tryz.prog 11 [.int .i64 z, .int .i64 (n : Int)] [] (fun v S => v = .int .i64 (pk0 z n : Nat) ∧ S = []) := by
 have hf := tmod_fix z n (by omega)
 have hp : ((pk0 z n : Nat) : Int) = z % n := by
  unfold pk0
  have h1 := Int.emod_nonneg z (show (n : Int) ≠ 0 by omega)
  omega
 refine spec_of Tryz.func11 rfl Tryz.results11 Tryz.ntmps11 rfl ?_
 repeat' first | refine l_qp (by exact q_remT rfl rfl (by omega)) rfl ?_ | refine d_qp rfl (by exact q_remT rfl rfl (by omega)) rfl ?_ | refine d_gqp rfl rfl (by exact q_remT rfl rfl (by omega)) rfl ?_ | refine wk ?_ | refine wc ?_ ?_ <;> intro h <;> try omega | fail
 ·exact b_ret [] rfl (Ent.refl _) ⟨by
   rw [if_pos h] at hf
   rw [hp, ← hf.1]; rfl, rfl⟩
 ·exact b_ret [] rfl (Ent.refl _) ⟨by
   rw [if_neg h] at hf
   rw [hp, ← hf.1]; rfl, rfl⟩
def setV (a : Option Addr) (n c : Nat) (zc zm : Int) : Value := .agg #[.slice a n c, .int .i64 zc, .int .i64 zm]
theorem s_most (a : Option Addr) (n c : Nat) (zc zm : Int) : Spec Tryz.prog 16 [setV a n c zc zm] [] (fun v S => v = .int .i64 ((1 + pk0 zm 16 : Nat) : Int) ∧ S = []) := by
 have h16 := pk0_lt zm 16 (by decide)
 refine spec_of Tryz.func16 rfl Tryz.results16 Tryz.ntmps16 rfl ?_
 show Trip _ _ _ _ (numF 0 [.agg #[.slice a n c, .int .i64 zc, .int .i64 zm]]) _ _
 repeat' first | refine wk ?_ | refine wc ?_ ?_ <;> intro h <;> try omega | fail
 refine o_box rfl rfl rfl fun b1 => ?_
 repeat' first | refine wk ?_ | refine wc ?_ ?_ <;> intro h <;> try omega | fail
 refine c_call (s_pick zm 16 (.inl rfl)) rfl xpkd rfl rfl ?_
 rintro v S ⟨rfl, rfl⟩
 refine l_tell rfl ?_
 repeat' first | refine wk ?_ | refine wc ?_ ?_ <;> intro h <;> try omega | fail
 exact b_ret [] rfl (Ent.pick xpkd) ⟨by simp [retV], rfl⟩
theorem s_capacity (a : Option Addr) (n c : Nat) (zc zm : Int) : Spec Tryz.prog 74 [setV a n c zc zm] [] (fun v S => v = .int .i64 ((4 + pk0 zc 40 : Nat) : Int) ∧ S = []) := by
 have h16 := pk0_lt zc 40 (by decide)
 refine spec_of Tryz.func74 rfl Tryz.results74 Tryz.ntmps74 rfl ?_
 show Trip _ _ _ _ (numF 0 [.agg #[.slice a n c, .int .i64 zc, .int .i64 zm]]) _ _
 repeat' first | refine wk ?_ | refine wc ?_ ?_ <;> intro h <;> try omega | fail
 refine o_box rfl rfl rfl fun b1 => ?_
 repeat' first | refine wk ?_ | refine wc ?_ ?_ <;> intro h <;> try omega | fail
 refine c_call (s_pick zc 40 (.inr rfl)) rfl xpkd rfl rfl ?_
 rintro v S ⟨rfl, rfl⟩
 refine l_tell rfl ?_
 repeat' first | refine wk ?_ | refine wc ?_ ?_ <;> intro h <;> try omega | fail
 exact b_ret [] rfl (Ent.pick xpkd) ⟨by simp [retV], rfl⟩
end Go.Ox
end
section
set_option maxRecDepth 100000
set_option maxHeartbeats 800000
namespace Go.Ox
open Go Go.Proofs
theorem s_copyB (A : Asn) (a : Option Addr) (n c : Nat) (xs : List Nat) (hA : Rds [A] a n 1 (vb xs)) (hl : xs.length = n) (hn : n ≤ 1000000) :
  Spec Tryz.prog 28 [.slice a n c] [A] (fun v S => ∃ a' c', v = .slice a' n c' ∧ S = [own a' n c' 5 1 (vb xs), A]) := by
 refine spec_of Tryz.func28 rfl Tryz.results28 Tryz.ntmps28 rfl ?_
 repeat' first | refine wk ?_ | refine wc ?_ ?_ <;> intro h <;> try omega | fail
 refine t_ent (ent_nil 5 1 _) ?_
 refine t_loop (fun mm env S => ∃ (i : Nat) (a3 : Option Addr) (c3 : Nat), i ≤ n ∧ mm = n - i ∧ env = [(0, .slice a n c), (3, .slice a3 i c3), (4, .int .i64 (i : Int))] ∧ S = [own a3 i c3 5 1 (vb (xs.take i)), A]) n _ _ ⟨0, none, 0, by omega, by omega, rfl, rfl⟩ xlss (Ent.refl _) ?_
 rintro mm env S ⟨i, a3, c3, hi, rfl, rfl, rfl⟩
 by_cases hin : i < n
 ·refine t_pure (fun x hx => (hA.some' (by omega)) x (Ent.drop _ _ x hx)) ?_
  rintro ⟨b, off, rfl⟩
  have hix : i < xs.length := by omega
  repeat' first | refine wk ?_ | refine wc ?_ ?_ <;> intro h <;> try omega | refine l_qs (by exact q_loadRd (j := i) (f := 0) (r := [.int .u8 (xs[i] : Int)]) (hA.up xpkd) rfl (by omega) rfl rfl (by simp [vb, List.getElem?_eq_getElem hix]) rfl) rfl ?_ | fail
  refine o_buildSlice rfl rfl rfl rfl rfl rfl rfl rfl rfl rfl rfl rfl fun pb => ?_
  repeat' first | refine wk ?_ | refine wc ?_ ?_ <;> intro h <;> try omega | fail
  refine c_append rfl rfl xhol (own_rds (a := some ⟨pb, 0, none⟩) xfnd) rfl rfl rfl rfl rfl (by show (i + 1) * 1 ≤ _; omega) (by omega) rfl fun a4 c4 => ?_
  repeat' first | refine wk ?_ | refine wc ?_ ?_ <;> intro h <;> try omega | fail
  have hst : vb (xs.take i) ++ [cellsL (.int .u8 (xs[i] : Int))] = vb (xs.take (i + 1)) := by
   unfold vb
   rw [List.take_succ_eq_append_getElem hix, List.map_append]; rfl
  rw [hst]
  exact ⟨rfl, n - (i + 1), _, _, by omega, ⟨i + 1, a4, c4, by omega, rfl, rfl, rfl⟩, xlss, Ent.pick xpkd⟩
 ·have : i = n := by omega
  subst this
  rw [List.take_of_length_le (by omega)]
  repeat' first | refine wk ?_ | refine wc ?_ ?_ <;> intro h <;> try omega | fail
  exact b_ret [own a3 i c3 5 1 (vb xs), A] rfl (Ent.pick xpkd) ⟨a3, c3, rfl, rfl⟩
end Go.Ox
end
section
set_option maxRecDepth 100000
set_option maxHeartbeats 800000
namespace Go.Ox
open Go Go.Proofs
theorem s_refNew (A : Asn) (a : Option Addr) (n c most : Nat) (xs : List Nat) (hA : Rds [A] a n 1 (vb xs)) (hl : xs.length = n) (hn : n ≤ 1000000) :
  Spec Tryz.prog 39 [.slice a n c, .int .i64 (most : Int)] [A] (fun v S => ∃ b, v = .pointer (some ⟨b, 0, none⟩) ∧ S = [A]) := by
 refine spec_of Tryz.func39 rfl Tryz.results39 Tryz.ntmps39 rfl ?_
 repeat' first | refine wk ?_ | refine wc ?_ ?_ <;> intro h <;> try omega | fail
 refine c_call (s_copyB A a n c xs hA hl hn) rfl xpkd rfl rfl ?_
 rintro v S ⟨a1, c1, rfl, rfl⟩
 refine l_tell rfl ?_
 repeat' first | refine wk ?_ | refine wc ?_ ?_ <;> intro h <;> try omega | fail
 refine o_buildSlice rfl rfl rfl rfl rfl rfl rfl rfl rfl rfl rfl rfl fun pb => ?_
 repeat' first | refine wk ?_ | refine wc ?_ ?_ <;> intro h <;> try omega | fail
 refine c_call (s_copyB A a n c xs hA hl hn) rfl xpkd rfl rfl ?_
 rintro v S ⟨a2, c2, rfl, rfl⟩
 refine l_tell rfl ?_
 repeat' first | refine wk ?_ | refine wc ?_ ?_ <;> intro h <;> try omega | fail
 refine c_call (s_copyB A a n c xs hA hl hn) rfl xpkd rfl rfl ?_
 rintro v S ⟨a3, c3, rfl, rfl⟩
 refine l_tell rfl ?_
 repeat' first | refine wk ?_ | refine wc ?_ ?_ <;> intro h <;> try omega | fail
 refine o_box rfl rfl rfl fun b => ?_
 repeat' first | refine wk ?_ | refine wc ?_ ?_ <;> intro h <;> try omega | fail
 exact b_ret [A] rfl (Ent.pick xpkd) ⟨b, rfl, rfl⟩
def wC (w : Nat) (a : Option Addr) (n c : Nat) (zc zm : Int) (d : Nat) (x sv : Value) : Asn := cellsAt w 34 [.slice a n c, .int .i64 zc, .int .i64 zm, .pointer (some ⟨d, 0, none⟩), x, sv]
theorem s_wopen (w : Nat) (a : Option Addr) (n c : Nat) (zc zm : Int) (sv : Value) (d room kn fu : Nat) (o : Option (List Nat)) (R : Nat → Nat → Nat → Nat → VO → Prop)
  (hlay : ∀ V cc s T, Spec Tryz.prog 191 [.pointer (some ⟨V, 0, none⟩)] [vaC V cc s T d (.pointer none) (.pointer none) none 0 0 0 su0 su0 none 0 0, spC s [] 0, stC ⟨cc, d, room, 4 + pk0 zc 40, kn, o, none, none⟩ (fun _ => none) 0 fu, trC T cc s] (fun v S => v = .int .i64 0 ∧ ∃ q : VO, q.ok ∧ R V cc s T q ∧ S = q.L V cc s T d)) :
  Spec Tryz.prog 26 [.pointer (some ⟨w, 0, none⟩)] [wC w a n c zc zm d (.pointer none) sv, dskC d room ⟨o, none, none, none⟩ fu]
   (fun v S => ∃ E V cc s T q, q.ok ∧ R V cc s T q ∧ v = .int .i64 0 ∧ S = wC w a n c zc zm d (.pointer (some ⟨E, 0, none⟩)) sv :: edC E V d (1 + pk0 zm 16) q.at.r q.at.b false :: q.L V cc s T d) := by
 have h40 := pk0_lt zc 40 (by decide)
 have h16 := pk0_lt zm 16 (by decide)
 refine spec_of Tryz.func26 rfl Tryz.results26 Tryz.ntmps26 rfl ?_
 repeat' first | refine wk ?_ | refine wc ?_ ?_ <;> intro h <;> try omega | fail
 refine t_draw (id := 1) (.eval 0 true (.eval 1 true (.eval 2 true (.eval 3 false (.eval 4 true (.eval 5 true (.eval 6 true (.eval 7 false (.eval 9 true (.eval 10 true (.eval 11 true (.eval 12 false (.eff 8 [3, 12] (.eff 13 [3, 7] (.eff 14 [7, 12] (.eval 15 true (.eval 16 true (.eval 17 true (.eff 18 [] (.eff 19 [] .fin .stop) .stop)))) .stop) .stop) .stop))))))))))))) rfl (by kernel_rfl) ?_
 repeat' first | refine wk ?_ | refine wc ?_ ?_ <;> intro h <;> try omega | fail
 refine c_call (s_capacity a n c zc zm) rfl xpkd rfl rfl ?_
 rintro v S ⟨rfl, rfl⟩
 refine l_tell rfl ?_
 repeat' first | refine wk ?_ | refine wc ?_ ?_ <;> intro h <;> try omega | fail
 refine c_call (s_most a n c zc zm) rfl xpkd rfl rfl ?_
 rintro v S ⟨rfl, rfl⟩
 refine l_tell rfl ?_
 repeat' first | refine wk ?_ | refine wc ?_ ?_ <;> intro h <;> try omega | fail
 refine c_call (s_eOpen d room (4 + pk0 zc 40) kn (1 + pk0 zm 16) fu o (by omega) (by omega) (by omega) (by omega) R hlay) rfl xpkd rfl rfl ?_
 rintro v S ⟨E, V, cc, s, T, q, hq, hR, rfl, rfl⟩
 refine l_ent (Ent.perm (List.perm_append_comm (l₂ := [wC w a n c zc zm d (.pointer none) sv]))) ?_
 show TripL _ _ _ _ _ _ (wC w a n c zc zm d (.pointer none) sv :: edC E V d (1 + pk0 zm 16) q.at.r q.at.b false :: q.L V cc s T d) _
 generalize hqL : q.L V cc s T d = qL
 repeat' first | refine wk ?_ | refine wc ?_ ?_ <;> intro h <;> try omega | fail
 exact b_ret (wC w a n c zc zm d (.pointer (some ⟨E, 0, none⟩)) sv :: edC E V d (1 + pk0 zm 16) q.at.r q.at.b false :: qL) rfl (Ent.refl _) ⟨E, V, cc, s, T, q, hq, hR, rfl, by rw [hqL]⟩
end Go.Ox
end
section
set_option maxRecDepth 100000
set_option maxHeartbeats 1600000
namespace Go.Ox
open Go Go.Proofs
def oOf (n : Nat) (xs : List Nat) : Option (List Nat) := if n = 0 then none else some xs
theorem s_wlay (A : Asn) (a : Option Addr) (n c : Nat) (zc zm : Int) (room kn : Nat) (xs : List Nat) (hA : Rds [A] a n 1 (vb xs)) (hl : xs.length = n) (hn : n ≤ 300) (hr1 : 1000 ≤ room) (hr2 : room ≤ 1099511627776) (R : Nat → Nat → Nat → Nat → Nat → VO → Prop)
  (hlay : ∀ d V cc s T, Spec Tryz.prog 191 [.pointer (some ⟨V, 0, none⟩)] [vaC V cc s T d (.pointer none) (.pointer none) none 0 0 0 su0 su0 none 0 0, spC s [] 0, stC ⟨cc, d, room, 4 + pk0 zc 40, kn, oOf n xs, none, none⟩ (fun _ => none) 0 1000000000000, trC T cc s] (fun v S => v = .int .i64 0 ∧ ∃ q : VO, q.ok ∧ R d V cc s T q ∧ S = q.L V cc s T d)) :
  Spec Tryz.prog 10 [setV a n c zc zm, .int .i64 (room : Int)] [A]
   (fun v S => ∃ w sv d E V cc s T q, q.ok ∧ R d V cc s T q ∧ v = .pointer (some ⟨w, 0, none⟩) ∧ S = wC w a n c zc zm d (.pointer (some ⟨E, 0, none⟩)) sv :: edC E V d (1 + pk0 zm 16) q.at.r q.at.b false :: q.L V cc s T d) := by
 have h16 := pk0_lt zm 16 (by decide)
 refine spec_of Tryz.func10 rfl Tryz.results10 Tryz.ntmps10 rfl ?_
 show Trip _ _ _ _ (numF 0 [.agg #[.slice a n c, .int .i64 zc, .int .i64 zm], .int .i64 (room : Int)]) _ _
 repeat' first | refine wk ?_ | refine wc ?_ ?_ <;> intro h <;> try omega | fail
 refine o_box rfl rfl rfl fun b1 => ?_
 repeat' first | refine wk ?_ | refine wc ?_ ?_ <;> intro h <;> try omega | fail
 refine c_call (s_new4 room hr2) rfl xpkd rfl rfl ?_
 rintro v S ⟨d, rfl, rfl⟩
 refine l_tell rfl ?_
 repeat' first | refine wk ?_ | refine wc ?_ ?_ <;> intro h <;> try omega | fail
 ·have h0 : 1 ≤ n := by omega
  have ho : oOf n xs = some xs := by unfold oOf; rw [if_neg (by omega)]
  refine c_call (s_load4 A d room 1000000000000 ⟨none, none, none, none⟩ .o a n c xs rfl hA hl (by show 0 + n ≤ room; omega) hr2) rfl xpkd rfl rfl ?_
  rintro v S ⟨rfl, rfl⟩
  refine l_tell rfl ?_
  repeat' first | refine wk ?_ | refine wc ?_ ?_ <;> intro h <;> try omega | fail
  refine t_draw (id := 4) (.eval 0 false (.eval 1 true (.eval 2 true (.eval 3 false (.eval 4 false (.eff 5 [0, 3] (.eff 6 [0, 4] (.eval 7 true (.eff 8 [0, 3, 4] (.eff 9 [] .fin .stop) .stop)) .stop) .stop)))))) rfl (by kernel_rfl) ?_
  repeat' first | refine wk ?_ | refine wc ?_ ?_ <;> intro h <;> try omega | fail
  refine c_call (s_most a n c zc zm) rfl xpkd rfl rfl ?_
  rintro v S ⟨rfl, rfl⟩
  refine l_tell rfl ?_
  repeat' first | refine wk ?_ | refine wc ?_ ?_ <;> intro h <;> try omega | fail
  refine c_call (s_refNew A a n c (1 + pk0 zm 16) xs hA hl (by omega)) rfl xpkd rfl rfl ?_
  rintro v S ⟨sb, rfl, rfl⟩
  refine l_tell rfl ?_
  repeat' first | refine wk ?_ | refine wc ?_ ?_ <;> intro h <;> try omega | fail
  refine o_box rfl rfl rfl fun w => ?_
  repeat' first | refine wk ?_ | refine wc ?_ ?_ <;> intro h <;> try omega | fail
  refine c_call (s_wopen w a n c zc zm (.pointer (some ⟨sb, 0, none⟩)) d room kn 1000000000000 (oOf n xs) (R d) (hlay d)) rfl (by rw [ho]; exact xpkd) rfl rfl ?_
  rintro v S ⟨E, V, cc, s, T, q, hq, hR, rfl, rfl⟩
  refine l_ent (Ent.left _ _) ?_
  generalize hqL : q.L V cc s T d = qL
  repeat' first | refine wk ?_ | refine wc ?_ ?_ <;> intro h <;> try omega | fail
  exact b_ret (wC w a n c zc zm d (.pointer (some ⟨E, 0, none⟩)) (.pointer (some ⟨sb, 0, none⟩)) :: edC E V d (1 + pk0 zm 16) q.at.r q.at.b false :: qL) rfl (Ent.refl _) ⟨w, .pointer (some ⟨sb, 0, none⟩), d, E, V, cc, s, T, q, hq, hR, rfl, by rw [hqL]⟩
 ·have ho : oOf n xs = none := by unfold oOf; rw [if_pos (by omega)]
  refine t_draw (id := 4) (.eval 0 false (.eval 1 true (.eval 2 true (.eval 3 false (.eval 4 false (.eff 5 [0, 3] (.eff 6 [0, 4] (.eval 7 true (.eff 8 [0, 3, 4] (.eff 9 [] .fin .stop) .stop)) .stop) .stop)))))) rfl (by kernel_rfl) ?_
  repeat' first | refine wk ?_ | refine wc ?_ ?_ <;> intro h <;> try omega | fail
  refine c_call (s_most a n c zc zm) rfl xpkd rfl rfl ?_
  rintro v S ⟨rfl, rfl⟩
  refine l_tell rfl ?_
  repeat' first | refine wk ?_ | refine wc ?_ ?_ <;> intro h <;> try omega | fail
  refine c_call (s_refNew A a n c (1 + pk0 zm 16) xs hA hl (by omega)) rfl xpkd rfl rfl ?_
  rintro v S ⟨sb, rfl, rfl⟩
  refine l_tell rfl ?_
  repeat' first | refine wk ?_ | refine wc ?_ ?_ <;> intro h <;> try omega | fail
  refine o_box rfl rfl rfl fun w => ?_
  repeat' first | refine wk ?_ | refine wc ?_ ?_ <;> intro h <;> try omega | fail
  refine c_call (s_wopen w a n c zc zm (.pointer (some ⟨sb, 0, none⟩)) d room kn 1000000000000 (oOf n xs) (R d) (hlay d)) rfl (by rw [ho]; exact xpkd) rfl rfl ?_
  rintro v S ⟨E, V, cc, s, T, q, hq, hR, rfl, rfl⟩
  refine l_ent (Ent.left _ _) ?_
  generalize hqL : q.L V cc s T d = qL
  repeat' first | refine wk ?_ | refine wc ?_ ?_ <;> intro h <;> try omega | fail
  exact b_ret (wC w a n c zc zm d (.pointer (some ⟨E, 0, none⟩)) (.pointer (some ⟨sb, 0, none⟩)) :: edC E V d (1 + pk0 zm 16) q.at.r q.at.b false :: qL) rfl (Ent.refl _) ⟨w, .pointer (some ⟨sb, 0, none⟩), d, E, V, cc, s, T, q, hq, hR, rfl, by rw [hqL]⟩
end Go.Ox
end
section
namespace Go.Ox
open Go Go.Proofs
def TrOk (m : Nat) (pg : Nat → Option (List Nat)) (us : List Nat) (r b : Nat) : Prop :=
 (r = 0 ∧ b = 0) ∨ ∃ ps, 1 ≤ r ∧ r ∈ us ∧ pg r = some (lfB r ps) ∧ LfOk ps ∧ b = sumN ps ∧ b ≤ 300 ∧ (b ≤ m ∨ ∃ o x, ps = o ++ [x] ∧ x.s = 0 ∧ sumN o ≤ m)
theorem cutP_ok {x : Pc} (h : x.ok) (k : Nat) (hk : k < x.n) : (cutP x k).ok ∧ (cutP x k).n = x.n - k ∧ (cutP x k).s = x.s := by
 obtain ⟨h1, h2, h3, h4, h5, h6, h7⟩ := h
 unfold cutP
 split
 ·subst k
  exact ⟨⟨h1, h2, h3, h4, h5, h6, h7⟩, rfl, rfl⟩
 ·refine ⟨⟨h1, by show x.a + k + (x.n - k) ≤ _; omega, by show 1 ≤ x.n - k; omega, by show x.n - k ≤ _; omega, ?_, ?_, ?_⟩, rfl, rfl⟩
  ·show (-1 : Int) ≤ (if x.l = 0 then 0 else -1); split <;> omega
  ·show (if x.l = 0 then 0 else -1) ≤ ((x.n - k : Nat) : Int); split <;> omega
  ·show x.s = 1 ∨ (if x.l = 0 then (0 : Int) else -1) = -1
   rcases h7 with h | h
   ·exact .inl h
   ·right; rw [if_neg (by omega)]
theorem lf1 {e : Pc} (he : e.ok) : LfOk [e] := ⟨by simp, by simp, fun p hp => by rw [List.mem_singleton.1 hp]; exact he, by rw [sumN_one]; exact he.2.2.2.1⟩
theorem spl_any (m : Nat) (T s tk : Nat) (us : List Nat) (K : SK) (hK : K.ok) (pg : Nat → Option (List Nat)) (sl fu r b : Nat) (ht : TrOk m pg us r b) (e : Pc) (he : e.ok) (hes : e.s = 1) (hen : e.n = m) (h1 : 1 ≤ m) (h2 : m ≤ 60) (hub : ∀ k ∈ us, k < 1048576) (hu : us.length + 2 ≤ K.n) (htk : tk ≤ 1000000000) :
  ∃ ps', LfOk ps' ∧ sumN ps' = b - min m b + m ∧ sumN ps' ≤ 300 ∧ (sumN ps' ≤ m ∨ ∃ o x, ps' = o ++ [x] ∧ x.s = 0 ∧ sumN o ≤ m) ∧
   ∀ (a : Option Addr) (c : Nat), Spec Tryz.prog 48 [.pointer (some ⟨T, 0, none⟩), .int .i64 (r : Int), .int .i64 0, .int .i64 ((min m b : Nat) : Int), .slice a 1 c] [trC T K.cc s, stC K pg sl (fu + 256 * K.n + 256 * K.n + 256 * K.n + 256 * K.n), spC s us tk, own a 1 c 88 4 (pcs [e])]
    (fun v S => ∃ no', 1 ≤ no' ∧ no' ≤ us.length + 1 ∧ no' ∉ us ∧ v = .tuple #[.int .i64 (no' : Nat), .int .i64 0] ∧ S = [trC T K.cc s, stC K (updP pg no' (some (lfB no' ps'))) sl fu, spC s (no' :: us) (tk + 1), own a 1 c 88 4 (pcs [e])]) := by
 have hs1 : sumN [e] = m := by rw [sumN_one, hen]
 rcases ht with ⟨rfl, rfl⟩ | ⟨ps, r1, ru, hp, hps, rfl, hb, htree⟩
 ·refine ⟨[e], lf1 he, by rw [hs1]; omega, by omega, .inl (by omega), fun a c => ?_⟩
  rw [Nat.min_zero]
  exact s_tspliceA (own a 1 c 88 4 (pcs [e])) T s tk us K hK pg sl fu a c e (Rds.own 0 rfl) he (lf1 he) hu htk
 ·by_cases hbm : sumN ps ≤ m
  ·refine ⟨[e], lf1 he, by rw [hs1]; omega, by omega, .inl (by omega), fun a c => ?_⟩
   rw [Nat.min_eq_right hbm]
   exact s_tspliceB (own a 1 c 88 4 (pcs [e])) T s tk us K hK pg sl fu a c e (Rds.own 0 rfl) he (lf1 he) r ps hp hps r1 (hub r ru) hu htk
  ·obtain ⟨o, x, rfl, hx0, ho⟩ := htree.resolve_left hbm
   have hsum : sumN (o ++ [x]) = sumN o + x.n := by rw [sumN_append, sumN_one]
   have hxo : x.ok := hps.2.2.1 x (by simp)
   obtain ⟨c1, c2, c3⟩ := cutP_ok hxo (m - sumN o) (by omega)
   have hs2 : sumN [e, cutP x (m - sumN o)] = m + (x.n - (m - sumN o)) := by
    show sumN ([e] ++ [_]) = _
    rw [sumN_append, hs1, sumN_one, c2]
   have hl2 : LfOk [e, cutP x (m - sumN o)] := ⟨by simp, by simp, fun p hp => by
    rcases List.mem_cons.1 hp with rfl | hp
    ·exact he
    ·rw [List.mem_singleton.1 hp]; exact c1, by rw [hs2]; omega⟩
   refine ⟨[e, cutP x (m - sumN o)], hl2, by rw [hs2]; omega, by rw [hs2]; omega, .inr ⟨[e], cutP x (m - sumN o), rfl, by rw [c3, hx0], by omega⟩, fun a c => ?_⟩
   rw [Nat.min_eq_left (by omega)]
   exact s_tspliceC (own a 1 c 88 4 (pcs [e])) T s tk us K hK pg sl fu a c e (Rds.own 0 rfl) he r m o x hp hps r1 (hub r ru) h1 ho (by omega) hl2 (.inl (by rw [hes, c3, hx0]; decide)) (by omega) hu htk
end Go.Ox
end
