/- Whatever the three arguments, WholeKept returns true and the arguments read as they did. No condition. -/
import Derived.Test.YtonpakokjgloaaaGreatRows
import Derived.WalkKit
import Derived.ProofKit
import Derived.OpenShut
import Derived.ShutString
import Derived.ChangeOld
import Derived.Below
import Derived.Lib.SmallJoins
import Derived.Test.YtonpakokjgloaaaGreatOx38
import Derived.Test.YtonpakokjgloaaaGreatOx53
import Derived.Test.YtonpakokjgloaaaGreatOxFact
set_option linter.all false
section
set_option maxRecDepth 100000
set_option maxHeartbeats 1600000
namespace Go.Ox
open Go Go.Proofs
theorem s_wlayA (A : Asn) (a : Option Addr) (n c : Nat) (zc zm : Int) (room kn : Nat) (xs : List Nat) (hA : Rds [A] a n 1 (vb xs)) (hl : xs.length = n) (hn : n ≤ 300) (hr1 : 1000 ≤ room) (hr2 : room ≤ 1099511627776) (R : Nat → Nat → Nat → Nat → Nat → VO → Prop)
  (hlay : ∀ d V cc s T, Spec Tryz.prog 191 [.pointer (some ⟨V, 0, none⟩)] [vaC V cc s T d (.pointer none) (.pointer none) none 0 0 0 su0 su0 none 0 0, spC s [] 0, stC ⟨cc, d, room, 4 + pk0 zc 40, kn, oOf n xs, none, none⟩ (fun _ => none) 0 1000000000000, trC T cc s] (fun v S => v = .int .i64 0 ∧ ∃ q : VO, q.ok ∧ R d V cc s T q ∧ S = q.L V cc s T d)) :
  Spec Tryz.prog 10 [setV a n c zc zm, .int .i64 (room : Int)] [A]
   (fun v S => ∃ w sv d E V cc s T q, q.ok ∧ R d V cc s T q ∧ v = .pointer (some ⟨w, 0, none⟩) ∧ S = A :: wC w a n c zc zm d (.pointer (some ⟨E, 0, none⟩)) sv :: edC E V d (1 + pk0 zm 16) q.at.r q.at.b false :: q.L V cc s T d) := by
 have h16 := pk0_lt zm 16 (by decide)
 refine spec_of Tryz.func10 rfl Tryz.results10 Tryz.ntmps10 rfl ?_
 show Trip _ _ _ _ (numF 0 [.agg #[.slice a n c, .int .i64 zc, .int .i64 zm], .int .i64 (room : Int)]) _ _
 repeat' first | refine wk ?_ | refine wc ?_ ?_ <;> intro h <;> try omega | fail
 refine o_box rfl rfl rfl fun b1 => ?_
 repeat' first | refine wk ?_ | refine wc ?_ ?_ <;> intro h <;> try omega | fail
 refine c_call (s_new4 room hr2) rfl xpkd rfl rfl ?_
 rintro v S ⟨d, rfl, rfl⟩
 refine l_tell rfl ?_
 repeat' first | refine wk ?_ | refine wc ?_ ?_ <;> intro h <;> try omega | fail
 ·have h0 : 1 ≤ n := by omega
  have ho : oOf n xs = some xs := by unfold oOf; rw [if_neg (by omega)]
  refine c_call (s_load4 A d room 1000000000000 ⟨none, none, none, none⟩ .o a n c xs rfl hA hl (by show 0 + n ≤ room; omega) hr2) rfl xpkd rfl rfl ?_
  rintro v S ⟨rfl, rfl⟩
  refine l_tell rfl ?_
  repeat' first | refine wk ?_ | refine wc ?_ ?_ <;> intro h <;> try omega | fail
  refine t_draw (id := 4) (.eval 0 false (.eval 1 true (.eval 2 true (.eval 3 false (.eval 4 false (.eff 5 [0, 3] (.eff 6 [0, 4] (.eval 7 true (.eff 8 [0, 3, 4] (.eff 9 [] .fin .stop) .stop)) .stop) .stop)))))) rfl (by kernel_rfl) ?_
  repeat' first | refine wk ?_ | refine wc ?_ ?_ <;> intro h <;> try omega | fail
  refine c_call (s_most a n c zc zm) rfl xpkd rfl rfl ?_
  rintro v S ⟨rfl, rfl⟩
  refine l_tell rfl ?_
  repeat' first | refine wk ?_ | refine wc ?_ ?_ <;> intro h <;> try omega | fail
  refine c_call (s_refNew A a n c (1 + pk0 zm 16) xs hA hl (by omega)) rfl xpkd rfl rfl ?_
  rintro v S ⟨sb, rfl, rfl⟩
  refine l_tell rfl ?_
  repeat' first | refine wk ?_ | refine wc ?_ ?_ <;> intro h <;> try omega | fail
  refine o_box rfl rfl rfl fun w => ?_
  repeat' first | refine wk ?_ | refine wc ?_ ?_ <;> intro h <;> try omega | fail
  refine c_call (s_wopen w a n c zc zm (.pointer (some ⟨sb, 0, none⟩)) d room kn 1000000000000 (oOf n xs) (R d) (hlay d)) rfl (by rw [ho]; exact xpkd) rfl rfl ?_
  rintro v S ⟨E, V, cc, s, T, q, hq, hR, rfl, rfl⟩
  refine l_ent (S' := A :: wC w a n c zc zm d (.pointer (some ⟨E, 0, none⟩)) (.pointer (some ⟨sb, 0, none⟩)) :: edC E V d (1 + pk0 zm 16) q.at.r q.at.b false :: q.L V cc s T d) ((Ent.perm List.perm_append_comm).trans ((Ent.pick (Pre := [A]) xpkd).frame _)) ?_
  generalize hqL : q.L V cc s T d = qL
  repeat' first | refine wk ?_ | refine wc ?_ ?_ <;> intro h <;> try omega | fail
  exact b_ret (A :: wC w a n c zc zm d (.pointer (some ⟨E, 0, none⟩)) (.pointer (some ⟨sb, 0, none⟩)) :: edC E V d (1 + pk0 zm 16) q.at.r q.at.b false :: qL) rfl (Ent.refl _) ⟨w, .pointer (some ⟨sb, 0, none⟩), d, E, V, cc, s, T, q, hq, hR, rfl, by rw [hqL]⟩
 ·have ho : oOf n xs = none := by unfold oOf; rw [if_pos (by omega)]
  refine t_draw (id := 4) (.eval 0 false (.eval 1 true (.eval 2 true (.eval 3 false (.eval 4 false (.eff 5 [0, 3] (.eff 6 [0, 4] (.eval 7 true (.eff 8 [0, 3, 4] (.eff 9 [] .fin .stop) .stop)) .stop) .stop)))))) rfl (by kernel_rfl) ?_
  repeat' first | refine wk ?_ | refine wc ?_ ?_ <;> intro h <;> try omega | fail
  refine c_call (s_most a n c zc zm) rfl xpkd rfl rfl ?_
  rintro v S ⟨rfl, rfl⟩
  refine l_tell rfl ?_
  repeat' first | refine wk ?_ | refine wc ?_ ?_ <;> intro h <;> try omega | fail
  refine c_call (s_refNew A a n c (1 + pk0 zm 16) xs hA hl (by omega)) rfl xpkd rfl rfl ?_
  rintro v S ⟨sb, rfl, rfl⟩
  refine l_tell rfl ?_
  repeat' first | refine wk ?_ | refine wc ?_ ?_ <;> intro h <;> try omega | fail
  refine o_box rfl rfl rfl fun w => ?_
  repeat' first | refine wk ?_ | refine wc ?_ ?_ <;> intro h <;> try omega | fail
  refine c_call (s_wopen w a n c zc zm (.pointer (some ⟨sb, 0, none⟩)) d room kn 1000000000000 (oOf n xs) (R d) (hlay d)) rfl (by rw [ho]; exact xpkd) rfl rfl ?_
  rintro v S ⟨E, V, cc, s, T, q, hq, hR, rfl, rfl⟩
  refine l_ent (S' := A :: wC w a n c zc zm d (.pointer (some ⟨E, 0, none⟩)) (.pointer (some ⟨sb, 0, none⟩)) :: edC E V d (1 + pk0 zm 16) q.at.r q.at.b false :: q.L V cc s T d) ((Ent.perm List.perm_append_comm).trans ((Ent.pick (Pre := [A]) xpkd).frame _)) ?_
  generalize hqL : q.L V cc s T d = qL
  repeat' first | refine wk ?_ | refine wc ?_ ?_ <;> intro h <;> try omega | fail
  exact b_ret (A :: wC w a n c zc zm d (.pointer (some ⟨E, 0, none⟩)) (.pointer (some ⟨sb, 0, none⟩)) :: edC E V d (1 + pk0 zm 16) q.at.r q.at.b false :: qL) rfl (Ent.refl _) ⟨w, .pointer (some ⟨sb, 0, none⟩), d, E, V, cc, s, T, q, hq, hR, rfl, by rw [hqL]⟩
theorem s_keptA (A : Asn) (haw : Spec Tryz.prog 9 [] [] (fun v S => v = .bool true ∧ S = [])) (a : Option Addr) (n c : Nat) (zc zm z : Int) (xs : List Nat) (hA : Rds [A] a n 1 (vb xs)) (hl : xs.length = n) (hnc : n ≤ c) (hc : c ≤ 9223372036854775807) (a2 : Option Addr) (m c2 : Nat) (ys : List Nat) (hB : Rds [A] a2 m 1 (vb ys)) (hy : ys.length = m) (hmc : m ≤ c2) (hc2 : c2 ≤ 9223372036854775807) :
  Spec Tryz.prog 3 [setV a n c zc zm, .slice a2 m c2, .int .i64 z] [A] (fun v S => v = .bool true ∧ S = [A]) := by
 have h16 := pk0_lt zm 16 (by decide)
 have h40 := pk0_lt zc 40 (by decide)
 have hz := pk0_lt z 40 (by decide)
 refine spec_of Tryz.func3 rfl Tryz.results3 Tryz.ntmps3 rfl ?_
 show Trip _ _ _ _ (numF 0 [.agg #[.slice a n c, .int .i64 zc, .int .i64 zm], .slice a2 m c2, .int .i64 z]) _ _
 repeat' first | refine wk ?_ | refine wc ?_ ?_ <;> intro h <;> try omega | fail
 refine o_box rfl rfl rfl fun b3 => ?_
 repeat' first | refine wk ?_ | refine wc ?_ ?_ <;> intro h <;> try omega | fail
 refine c_call haw rfl xpkd rfl rfl ?_
 rintro v S ⟨rfl, rfl⟩
 refine l_tell rfl ?_
 repeat' first | refine wk ?_ | refine wc ?_ ?_ <;> intro h <;> try omega | fail
 ·refine c_call haw rfl xpkd rfl rfl ?_
  rintro v S ⟨rfl, rfl⟩
  refine l_tell rfl ?_
  repeat' first | refine wk ?_ | refine wc ?_ ?_ <;> intro h <;> try omega | fail
  exact b_ret [A] rfl (Ent.pick xpkd) ⟨rfl, rfl⟩
 ·refine c_call haw rfl xpkd rfl rfl ?_
  rintro v S ⟨rfl, rfl⟩
  refine l_tell rfl ?_
  repeat' first | refine wk ?_ | refine wc ?_ ?_ <;> intro h <;> try omega | fail
  exact b_ret [A] rfl (Ent.pick xpkd) ⟨rfl, rfl⟩
 ·refine c_call haw rfl xpkd rfl rfl ?_
  rintro v S ⟨rfl, rfl⟩
  refine l_tell rfl ?_
  repeat' first | refine wk ?_ | refine wc ?_ ?_ <;> intro h <;> try omega | fail
  exact b_ret [A] rfl (Ent.pick xpkd) ⟨rfl, rfl⟩
 have hn3 : n ≤ 300 := by omega
 have hm1 : 1 ≤ m := by omega
 have hm6 : m ≤ 60 := by omega
 refine c_call (s_wlayA A a n c zc zm 1073741824 64 xs hA hl hn3 (by decide) (by decide) (fun d V cc s T q => ∃ e : EV, EV.inv ⟨V, cc, s, T, d, 1073741824, 4 + pk0 zc 40, oOf n xs, n⟩ m (1 + pk0 zm 16) 0 e ∧ q = EV.q ⟨V, cc, s, T, d, 1073741824, 4 + pk0 zc 40, oOf n xs, n⟩ e) (fun d V cc s T => k_lay m (1 + pk0 zm 16) (4 + pk0 zc 40) 1073741824 n xs hl hn3 (by omega) (by omega) (by decide) (by decide) (by omega) d V cc s T)) rfl xpkd rfl rfl ?_
 rintro v S ⟨w, sv, d, E, V, cc, s, T, q, hq, ⟨e0, he0, rfl⟩, rfl, rfl⟩
 obtain ⟨k, hk⟩ : ∃ k : EK, k = ⟨V, cc, s, T, d, 1073741824, 4 + pk0 zc 40, oOf n xs, n⟩ := ⟨_, rfl⟩
 have hkd : k.d = d := by rw [hk]
 have hkV : k.V = V := by rw [hk]
 rw [← hk] at he0
 refine l_ent (S' := [A, wC w a n c zc zm d (.pointer (some ⟨E, 0, none⟩)) sv, edC E V d (1 + pk0 zm 16) e0.at.r e0.at.b false, pk (EV.L k e0)]) ?_ ?_
 ·subst hk
  refine (Ent.perm List.perm_append_comm).trans ?_
  exact (Ent.drop _ _).trans (Ent.cons A (Ent.cons _ (Ent.cons _ (pk_out _))))
 repeat' first | refine wk ?_ | refine wc ?_ ?_ <;> intro h <;> try omega | fail
 refine c_call (s_pick z 40 (.inr rfl)) rfl xpkd rfl rfl ?_
 rintro v S ⟨rfl, rfl⟩
 refine l_tell rfl ?_
 repeat' first | refine wk ?_ | refine wc ?_ ?_ <;> intro h <;> try omega | fail
 have hkok : k.ok := by
  have hlo : lenO (oOf n xs) = n := by
   unfold oOf; split
   ·subst n; rename_i h; rw [h]; rfl
   ·exact hl
  subst hk
  exact ⟨by show 4 ≤ 4 + pk0 zc 40; omega, by show 4 + pk0 zc 40 ≤ 44; omega, by show lenO (oOf n xs) ≤ 300; omega, hn3, by show 100000 ≤ 1073741824; decide, by show 1073741824 ≤ _; decide⟩
 rw [← hkV, ← hkd]
 clear hk hkd hkV hq
 generalize hN : pk0 z 40 = N at *
 refine t_loop (fun mm env S => ∃ (i t8 : Nat) (e : EV), i ≤ 60 + N ∧ t8 ≤ 64 ∧ mm = 60 + N - i ∧ EV.inv k m (1 + pk0 zm 16) i e ∧ env = [(1, .slice a2 m c2), (2, .int .i64 (N : Int)), (7, .pointer (some ⟨w, 0, none⟩)), (8, .int .i64 (t8 : Int)), (9, .int .i64 (i : Int))] ∧ S = [A, wC w a n c zc zm k.d (.pointer (some ⟨E, 0, none⟩)) sv, edC E k.V k.d (1 + pk0 zm 16) e.at.r e.at.b false, pk (EV.L k e)]) (60 + N) _ _ ⟨0, 0, e0, by omega, by omega, by omega, he0, rfl, rfl⟩ xlss (Ent.refl _) ?_
 rintro mm env S ⟨i, t8, e, hi, ht8, rfl, he, rfl, rfl⟩
 by_cases hin : i < 60 + N
 ·repeat' first | refine wk ?_ | refine wc ?_ ?_ <;> intro h <;> try omega | fail
  refine t_draw (id := 11) (.eval 0 true (.eval 1 true (.eval 2 true (.eval 3 false (.eval 4 true (.eval 5 true (.eval 6 true (.eval 7 true (.eval 8 true (.eval 9 false (.eval 12 true (.eff 10 [3] (.eval 11 true (.eff 13 [9] (.eval 14 true (.eval 15 true (.eval 16 true (.eval 17 true (.eval 18 true (.eval 19 false (.eff 20 [3, 9] (.eval 21 true (.eval 22 true .fin)) .stop))))))) .stop)) .stop)))))))))))) rfl (by kernel_rfl) ?_
  repeat' first | refine wk ?_ | refine wc ?_ ?_ <;> intro h <;> try omega | fail
  refine c_call (s_elen E k.V k.d (1 + pk0 zm 16) e.at.r e.at.b false) rfl xpkd rfl rfl ?_
  rintro v S ⟨rfl, rfl⟩
  refine l_tell rfl ?_
  repeat' first | refine l_qp (by exact q_minE (show min (m : Int) (e.at.b : Int) = ((min m e.at.b : Nat) : Int) from by omega) rfl rfl) rfl ?_ | refine d_qp rfl (by exact q_minE (show min (m : Int) (e.at.b : Int) = ((min m e.at.b : Nat) : Int) from by omega) rfl rfl) rfl ?_ | refine d_gqp rfl rfl (by exact q_minE (show min (m : Int) (e.at.b : Int) = ((min m e.at.b : Nat) : Int) from by omega) rfl rfl) rfl ?_ | refine wk ?_ | refine wc ?_ ?_ <;> intro h <;> try omega | fail
  refine c_call (kp_replace A E m (1 + pk0 zm 16) i k hkok e (by omega) hm1 hm6 he a2 c2 ys hB hy hmc) rfl xpkd rfl rfl ?_
  rintro v S ⟨root, bytes, e', he', rfl, rfl⟩
  refine l_tell rfl ?_
  repeat' first | refine wk ?_ | refine wc ?_ ?_ <;> intro h <;> try omega | fail
  refine c_call (kp_commit A E m (1 + pk0 zm 16) i root bytes k hkok e' (by omega) hm6 (by omega) (by omega) he') rfl xpkd rfl rfl ?_
  rintro v S ⟨e2, he2, rfl, rfl⟩
  refine l_tell rfl ?_
  repeat' first | refine wk ?_ | refine wc ?_ ?_ <;> intro h <;> try omega | fail
  have he2' := he2
  obtain ⟨⟨v1, v2, -, -, -, -, v7, -⟩, -, u1, -, -, -⟩ := he2
  refine c_call (kp_vers E (1 + pk0 zm 16) e2.at.r e2.at.b false k e2 (by omega)) rfl xpkd rfl rfl ?_
  rintro v S ⟨rfl, rfl⟩
  refine l_tell rfl ?_
  repeat' first | refine wk ?_ | refine wc ?_ ?_ <;> intro h <;> try omega | fail
  refine c_call (s_most a n c zc zm) rfl xpkd rfl rfl ?_
  rintro v S ⟨rfl, rfl⟩
  refine l_tell rfl ?_
  repeat' first | refine wk ?_ | refine wc ?_ ?_ <;> intro h <;> try omega | fail
  ·refine c_call (kp_stat E (1 + pk0 zm 16) e2.at.r e2.at.b false k e2 (by omega) v7) rfl xpkd rfl rfl ?_
   rintro v S ⟨z1, z3, z4, z2, z5, z6, h4, rfl, rfl⟩
   refine l_tell rfl ?_
   repeat' first | refine wk ?_ | refine wc ?_ ?_ <;> intro h <;> try omega | fail
   exact ⟨rfl, 60 + N - (i + 1), _, _, by omega, ⟨i + 1, z4, e2, by omega, h4, rfl, he2', rfl, rfl⟩, xlss, Ent.pick xpkd⟩
  ·exact ⟨rfl, 60 + N - (i + 1), _, _, by omega, ⟨i + 1, t8, e2, by omega, ht8, rfl, he2', rfl, rfl⟩, xlss, Ent.pick xpkd⟩
 ·repeat' first | refine wk ?_ | refine wc ?_ ?_ <;> intro h <;> try omega | fail
  obtain ⟨⟨v1, v2, -, -, -, -, v7, -⟩, -, u1, -, -, -⟩ := he
  refine c_call (kp_stat E (1 + pk0 zm 16) e.at.r e.at.b false k e (by omega) v7) rfl xpkd rfl rfl ?_
  rintro v S ⟨z1, z3, z4, z2, z5, z6, h4, rfl, rfl⟩
  refine l_tell rfl ?_
  repeat' first | refine wk ?_ | refine wc ?_ ?_ <;> intro h <;> try omega | fail
  exact b_ret [A] rfl (Ent.pick xpkd) ⟨rfl, rfl⟩
end Go.Ox
end
section
set_option maxRecDepth 100000
namespace Go.Proofs.YtonpakokjgloaaaGreat.lawWholeKept
open Go.ChangeShapes Go.WideShapes Go.ChangeAt Go.RowKit Go.Joins
open Go.Ox
set_option linter.unusedVariables false
theorem own : ownKnob Tryz.prog.godebug = none := by kernel_rfl
def IsRow (k : IntKind) (w : World) (a : Option Addr) (len cap : Nat) (zs : List Int) : Prop :=
 (a = none ∧ len = 0 ∧ cap = 0 ∧ zs = []) ∨
 ∃ x, a = some x ∧ len ≤ cap ∧ cap ≤ maxLen ∧ zs.length = cap ∧ (∀ i, i < zs.length → w.cell? (x.add i) = some (.int k (zs.getD i 0))) ∧ ∀ n ∈ zs, (Lit.int k n).wf = true
def All (W : World) : Asn := fun h => ∀ k o, heapOf W k = some o → h k = some o
theorem row_rds {W : World} {a : Option Addr} {len cap : Nat} {zs : List Int} (w0 : IsRow .u8 W a len cap zs) :
  ∃ xs : List Nat, Rds [All W] a len 1 (vb xs) ∧ xs.length = len ∧ len ≤ cap ∧ cap ≤ 9223372036854775807 := by
 have hmax : maxLen ≤ 9223372036854775807 := by decide
 rcases w0 with ⟨rfl, rfl, rfl, rfl⟩ | ⟨x, rfl, hl, hm, hz, hcell, hwz⟩
 ·exact ⟨[], Rds.nil _ _ _, rfl, Nat.le_refl _, by omega⟩
 ·refine ⟨(zs.take len).map Int.toNat, fun h hs => ⟨by simp [vb, hz]; omega, vb_ok _, ?_⟩, by simp [hz]; omega, hl, by omega⟩
  by_cases h0 : len = 0
  ·exact .inl h0
  ·right
   obtain ⟨b, off, spot⟩ := x
   have hc := hcell 0 (by omega)
   have hspot : spot = none := by simpa [Addr.add] using World.cell?_spot hc
   subst hspot
   obtain ⟨cs, e, f, hb⟩ : ∃ cs e f, W.heap[b]? = some (.cells cs e f) := by
    unfold World.cell? at hc
    simp only [Addr.add] at hc
    cases hbk : W.heap[b]? with
    | none => simp [hbk] at hc
    | some o => cases o with
     | cells cs e f => exact ⟨cs, e, f, rfl⟩
     | _ => simp [hbk] at hc
   obtain ⟨h1, h2, d, s1, s2, hA, _⟩ := hs
   refine ⟨b, off, cs, e, f, rfl, s1 _ _ (hA b _ hb), fun j v hj => ?_⟩
   rw [vb_flatten, List.getElem?_map, List.getElem?_map] at hj
   cases hzj : (zs.take len)[j]? with
   | none => simp [hzj] at hj
   | some z =>
    have hjl : j < len := by have := (List.getElem?_eq_some_iff.1 hzj).1; rw [List.length_take] at this; omega
    have hzz : zs[j]? = some z := by rw [List.getElem?_take] at hzj; simpa [hjl] using hzj
    have hcj := hcell j (by omega)
    have hw := hwz z (List.mem_of_getElem? hzz)
    have h0z : 0 ≤ z := by
     exact (bounds_u8 hw).1
    rw [List.getD_eq_getElem?_getD, hzz] at hcj
    rw [Addr.add_lit] at hcj
    simp [World.cell?, hb] at hcj
    rw [hzj] at hj
    simp at hj
    rw [hcj, ← hj]
    congr 2
    omega
theorem walk (a : Option Addr) (n c : Nat) (zs : List Int) (zc zm z : Int) (a2 : Option Addr) (m c2 : Nat) (zs2 : List Int) (w : World) (w0 : IsRow .u8 w a n c zs) (w1 : IsRow .u8 w a2 m c2 zs2) :
  Calls Tryz.prog 3 #[.agg #[.slice a n c, .int .i64 zc, .int .i64 zm], .slice a2 m c2, .int .i64 z] w fun e w' => e = .returned (.bool true) ∧ Below w.heap.size w w' := by
 obtain ⟨xs, hA, hl, hnc, hc⟩ := row_rds w0
 obtain ⟨ys, hB, hy, hmc, hc2⟩ := row_rds w1
 have h := s_keptA (All w) s_awake a n c zc zm z xs hA hl hnc hc a2 m c2 ys hB hy hmc hc2
 refine (h ⟨w.os, w.tape, w.output, w.heap.size⟩ [] w ⟨rfl, rfl, rfl, Nat.le_refl _, heapOf w, fun _ => none, fun _ => .inr rfl, sub.refl _, fun _ _ e => (by cases e), fun _ _ e => e, trivial⟩).mono ?_
 rintro e w' ⟨v, S', rfl, ⟨rfl, rfl⟩, hs⟩
 refine ⟨rfl, hs.os, hs.tape, hs.output, hs.size, fun k hk => ?_⟩
 obtain ⟨h1, h2, d, s1, s2, hA', _⟩ := hs.heap
 have hk' : w.heap[k]? = some w.heap[k] := Array.getElem?_eq_getElem hk
 rw [hk']
 exact s1 _ _ (hA' k _ hk')
theorem row_of {H : Type} {enc : TypeId × Value → H} {base : Nat} {held : Bool} {W : World} {fuel : Nat} {v : Value} {y : DataW H × List MemPlace}
  (hf : DataW.trod enc Tryz.prog W base (fun _ => true) held fuel 22 [v] = some y) : ∃ a len cap zs, v = .slice a len cap ∧ IsRow .u8 W a len cap zs := by
 rcases open_ints Tryz.underlying22 Tryz.underlying5 (by kernel_rfl) hf with ⟨hcs, _⟩ | ⟨x, l, c, zs, hcs, _, hl, hm, hz, _, hcell, hwz⟩
 ·obtain rfl : v = .slice none 0 0 := by simpa using hcs
  exact ⟨none, 0, 0, [], rfl, .inl ⟨rfl, rfl, rfl, rfl⟩⟩
 ·obtain rfl : v = .slice (some x) l c := by simpa using hcs
  exact ⟨some x, l, c, zs, rfl, .inr ⟨_, rfl, hl, hm, by simpa using hz, hcell, hwz⟩⟩
theorem lifted (os : Os) (started : os.Started) (H : Type) (enc : TypeId × Value → H) :
  ReturnsInHanded {} Tryz.checked os 3 .any (Rows.wholeKeptSpec.pre6 enc Tryz.prog Tryz.f3 Rows.wholeKeptRow.domain false) (Rows.wholeKeptSpec.post enc Tryz.prog Tryz.f3 false true false false) := by
 refine returnsInHanded_of_change (C := Tryz.checked) own started (by kernel_rfl) Tryz.func3
  (ChangeSpec.witness6 (enc := enc) (C := Tryz.checked) false ⟨#[], #[.agg #[.slice none 0 0, .int .i64 0, .int .i64 0], .slice none 0 0, .int .i64 0], []⟩ 8 (by kernel_rfl) (by kernel_rfl) (by kernel_rfl) (by kernel_rfl)) ?_
 intro W base args ds gs before hval0 hW hcnd _
 have hval : ∀ (j : Nat) t v, Tryz.f3.params[j]? = some t → args[j]? = some v → Value.okWide Tryz.prog W .any base t v := hval0
 have hW' := hW
 obtain ⟨p, q, hA0, hV, rfl, hfz, hnd⟩ := hW
 have hA : DataW.TrodAll enc Tryz.prog W 0 (fun _ => true) true Tryz.f3.params.toList args.toList ds p := hA0
 rw [Tryz.params3] at hA hval
 obtain ⟨v0, vs0, d0, ds0, p0, q0, hargs, rfl, rfl, h0, r0⟩ := trodAll_cons hA
 obtain ⟨v1, vs1, d1, ds1, p1, q1, rfl, rfl, rfl, h1, r1⟩ := trodAll_cons r0
 obtain ⟨v2, vs2, d2, ds2, p2, q2, rfl, rfl, rfl, h2, r2⟩ := trodAll_cons r1
 obtain ⟨rfl, rfl, rfl⟩ := trodAll_nil r2
 obtain rfl : args = #[v0, v1, v2] := by cases args; simp_all
 obtain ⟨rfl, rfl⟩ := trodVars_none hV
 have k0 := h0
 have lt0 : ∀ x ∈ p0, x.block < W.heap.size := by obtain ⟨m, hm⟩ := k0; exact DataW.trod_lt m _ _ _ hm
 have k1 := h1
 have lt1 : ∀ x ∈ p1, x.block < W.heap.size := by obtain ⟨m, hm⟩ := k1; exact DataW.trod_lt m _ _ _ hm
 obtain ⟨c0, c1, c2, y0, y1, y2, m, rfl, e0, _, hy0, hy1, hy2⟩ := open_agg3 Tryz.underlying24 (by kernel_rfl) (by kernel_rfl) (hval 0 24 v0 rfl rfl) h0
 obtain ⟨a0, n0, m0, z0, rfl, w0⟩ := row_of hy0
 obtain ⟨zc, ec, _, _⟩ := DataW.trod_int Tryz.underlying3 hy1
 obtain ⟨zm, em, _, _⟩ := DataW.trod_int Tryz.underlying3 hy2
 obtain rfl : c1 = .int .i64 zc := by simpa using ec
 obtain rfl : c2 = .int .i64 zm := by simpa using em
 obtain ⟨a1, n1, m1, rfl⟩ := okWide_slice Tryz.underlying22 (hval 1 22 v1 rfl rfl)
 obtain ⟨z1, w1⟩ : ∃ zs, IsRow .u8 W a1 n1 m1 zs := by
  obtain ⟨fuel, hf⟩ := h1
  obtain ⟨a, l, c, zs, e, h⟩ := row_of (v := .slice a1 n1 m1) hf
  cases e
  exact ⟨zs, h⟩
 obtain ⟨a2, rfl, rfl, rfl, w2⟩ := open_int Tryz.underlying3 (hval 2 3 v2 rfl rfl) h2
 clear hA0 hval0
 refine (walk a0 n0 m0 z0 zc zm a2 a1 n1 m1 z1 W w0 w1).mono fun e W' ⟨he, bel⟩ => ?_
 subst he
 exact ⟨_, rfl, _, _, _, [], _, [], hW', trodAll_mk1 (shut_bool Tryz.underlying4 _), (trodAll_cons_mk (Below.trod laidOut (by kernel_rfl) (of_decide_eq_true (by kernel_rfl)) k0 bel lt0) (trodAll_cons_mk (Below.trod laidOut (by kernel_rfl) (of_decide_eq_true (by kernel_rfl)) k1 bel lt1) (trodAll_cons_mk (shut_int Tryz.underlying3 w2) trodAll_mk0))), rfl, bel.frame _, fun h => by cases h⟩
theorem over : Rows.wholeKeptRow.holds Tryz.pinned (OpenSpec.ofChange Rows.wholeKeptSpec) :=
 OpenClaim.holds_of_wide 3 Tryz.f3 rfl rfl rfl rfl rfl rfl rfl ⟨rfl, rfl, rfl, rfl, rfl⟩ rfl rfl rfl rfl rfl (by kernel_rfl) Tryz.func3 closed
  (of_decide_eq_true (by kernel_rfl)) (by unfold Func.isWrapper; first | (rw [if_pos (by decide +kernel)]; kernel_rfl) | (rw [if_neg (by decide +kernel)]; exact ⟨rfl, rfl⟩))
  (fun os started H enc _ => lifted os started H enc)
theorem proved : Rows.WholeKeptSaid := over
#print axioms proved
end Go.Proofs.YtonpakokjgloaaaGreat.lawWholeKept
end
