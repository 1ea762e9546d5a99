/- WholeKept, part 41. No condition. -/
import Derived.Test.YtonpakokjgloaaaGreatOx25
import Derived.Test.YtonpakokjgloaaaGreatOx40
set_option linter.all false
section
set_option maxRecDepth 100000
set_option maxHeartbeats 1600000
namespace Go.Ox
open Go Go.Proofs
def plR (src : Nat) (ps : List Pc) : List (Int × Int) := (ps.filter fun p => p.s == src).map fun p => ((p.a : Int), ((p.a : Int) + (p.n : Int)))
theorem plR_snoc {src : Nat} {ps : List Pc} {i : Nat} (h : i < ps.length) : plR src (ps.take (i + 1)) = if (ps[i]).s = src then plR src (ps.take i) ++ [((ps[i].a : Int), ((ps[i].a : Int) + (ps[i].n : Int)))] else plR src (ps.take i) := by
 unfold plR
 rw [List.take_succ_eq_append_getElem h, List.filter_append, List.map_append]
 by_cases hs : (ps[i]).s = src
 ·rw [if_pos hs]; simp [hs]
 ·rw [if_neg hs]; simp [hs]
theorem plR_len (src : Nat) (ps : List Pc) : (plR src ps).length ≤ ps.length := by
 unfold plR; rw [List.length_map]; exact List.length_filter_le _ _
theorem plR_ok {src : Nat} {ps : List Pc} (h : ∀ p ∈ ps, ScE p) : okR 1073741824 (plR src ps) := by
 intro x hx
 obtain ⟨p, hp, rfl⟩ := List.mem_map.1 hx
 obtain ⟨h1, h2, h3⟩ := h p (List.mem_filter.1 hp).1
 exact ⟨by show (0 : Int) ≤ p.a; omega, by show (p.a : Int) < p.a + p.n; omega, by show (p.a : Int) + p.n ≤ _; omega⟩
theorem s_places (A : Asn) (a : Option Addr) (n c src : Nat) (ps : List Pc) (hA : Rds [A] a n 3 (scV ps)) (hl : ps.length = n) (hp : ScOk ps) :
  Spec Tryz.prog 321 [.slice a n c, .int .i64 (src : Int)] [A] (fun v S => ∃ (a' : Option Addr) (c' : Nat) (l' : List (Int × Int)), l'.Perm (plR src ps) ∧ l'.Pairwise (fun p q => p.1 ≤ q.1) ∧ v = .slice a' (merged l').length c' ∧ S = [own a' (merged l').length c' 187 2 (rgV (merged l')), A]) := by
 obtain ⟨p1, p2, p3⟩ := hp
 refine spec_of Tryz.func321 rfl Tryz.results321 Tryz.ntmps321 rfl ?_
 repeat' first | refine wk ?_ | refine wc ?_ ?_ <;> intro h <;> try omega | fail
 refine t_ent (ent_nil 187 2 _) ?_
 refine t_loop (fun mm env S => ∃ (i : Nat) (a1 : Option Addr) (c1 : Nat), i ≤ n ∧ mm = n - i ∧ env = [(1, .int .i64 (src : Int)), (5, .slice a1 (plR src (ps.take i)).length c1), (8, .slice a n c), (9, .int .i64 (n : Int)), (10, .int .i64 (i : Int))] ∧ S = [own a1 (plR src (ps.take i)).length c1 187 2 (rgV (plR src (ps.take i))), A]) n _ _ ⟨0, none, 0, by omega, by omega, rfl, rfl⟩ xlss (Ent.pick xpkd) ?_
 rintro mm env S ⟨i, a1, c1, hi, rfl, rfl, rfl⟩
 by_cases hin : i < n
 ·have hi2 : i < ps.length := by omega
  obtain ⟨g1, g2, g3⟩ := p1 _ (List.getElem_mem hi2)
  have hstep := plR_snoc (src := src) hi2
  have hml : (plR src (ps.take i)).length ≤ 100000 := Nat.le_trans (plR_len _ _) (by rw [List.length_take]; omega)
  refine t_pure (fun h hs => (hA.up (S := [_, A]) xpkd).some' (by omega) h hs) ?_
  rintro ⟨b, off, rfl⟩
  have hget : (scV ps)[i]? = some [.int .i64 ((ps[i]).s : Int), .int .i64 ((ps[i]).a : Int), .int .i64 ((ps[i]).n : Int)] := scV_get hi2
  generalize ps[i] = p at *
  by_cases hs : p.s = src
  ·rw [if_pos hs] at hstep
   repeat' first | refine wb fun _ => ?_ | refine wk ?_ | refine wc ?_ ?_ <;> intro h <;> try omega | refine l_qs (by exact q_loadRdA (j := i) (hA.up xpkd) rfl rfl rfl rfl rfl hget) rfl ?_ | fail
   refine o_buildSlice rfl rfl rfl rfl rfl rfl rfl rfl rfl rfl rfl rfl fun pb => ?_
   repeat' first | refine wk ?_ | refine wc ?_ ?_ <;> intro h <;> try omega | fail
   refine c_append rfl rfl xhol (own_rds (a := some ⟨pb, 0, none⟩) xfnd) rfl rfl rfl rfl rfl (by show ((plR src (ps.take i)).length + 1) * 16 ≤ _; omega) (by omega) rfl fun a3 c3 => ?_
   repeat' first | refine wk ?_ | refine wc ?_ ?_ <;> intro h <;> try omega | fail
   have e : (plR src (ps.take (i + 1))).length = (plR src (ps.take i)).length + 1 := by rw [hstep]; simp
   refine ⟨rfl, n - (i + 1), _, _, by omega, ⟨i + 1, a3, c3, by omega, rfl, rfl, rfl⟩, (by rw [e]; exact xlss), ?_⟩
   rw [e, hstep, rgV_app]
   exact Ent.pick xpkd
  ·rw [if_neg hs] at hstep
   repeat' first | refine wb fun _ => ?_ | refine wk ?_ | refine wc ?_ ?_ <;> intro h <;> try omega | refine l_qs (by exact q_loadRdA (j := i) (hA.up xpkd) rfl rfl rfl rfl rfl hget) rfl ?_ | fail
   refine ⟨rfl, n - (i + 1), _, _, by omega, ⟨i + 1, a1, c1, by omega, rfl, rfl, rfl⟩, (by rw [hstep]; exact xlss), ?_⟩
   rw [hstep]
   exact Ent.pick xpkd
 ·have e : i = n := by omega
  subst e
  rw [List.take_of_length_le (by omega)]
  have hln : (plR src ps).length ≤ 100000 := Nat.le_trans (plR_len _ _) (by omega)
  repeat' first | refine wk ?_ | refine wc ?_ ?_ <;> intro h <;> try omega | fail
  refine c_call (s_normal (own a1 (plR src ps).length c1 187 2 (rgV (plR src ps))) a1 (plR src ps).length c1 1073741824 (plR src ps) (Rds.own 0 rfl) rfl (by omega) (by omega) (plR_ok p1)) rfl xpkd rfl rfl ?_
  rintro v S ⟨a', c', l', h1, h2, rfl, rfl⟩
  refine l_tell rfl ?_
  repeat' first | refine wk ?_ | refine wc ?_ ?_ <;> intro h <;> try omega | fail
  exact b_ret [own a' (merged l').length c' 187 2 (rgV (merged l')), A] rfl (Ent.pick xpkd) ⟨a', c', l', h1, h2, rfl, rfl⟩
theorem s_either (A1 A2 : Asn) (a1 a2 : Option Addr) (n1 n2 c1 c2 : Nat) (l1 l2 : List (Int × Int)) (hA1 : Rds [A1] a1 n1 2 (rgV l1)) (hA2 : Rds [A2] a2 n2 2 (rgV l2)) (h1 : l1.length = n1) (h2 : l2.length = n2) (hn1 : n1 ≤ 100000) (hn2 : n2 ≤ 100000) (ho1 : okR 1073741824 l1) (ho2 : okR 1073741824 l2) :
  Spec Tryz.prog 320 [.slice a1 n1 c1, .slice a2 n2 c2] [A1, A2] (fun v S => ∃ (a' : Option Addr) (c' : Nat) (l' : List (Int × Int)), l'.Perm (l1 ++ l2) ∧ l'.Pairwise (fun p q => p.1 ≤ q.1) ∧ v = .slice a' (merged l').length c' ∧ S = [own a' (merged l').length c' 187 2 (rgV (merged l')), A1, A2]) := by
 refine spec_of Tryz.func320 rfl Tryz.results320 Tryz.ntmps320 rfl ?_
 repeat' first | refine wk ?_ | refine wc ?_ ?_ <;> intro h <;> try omega | fail
 refine o_buildSlice rfl rfl rfl rfl rfl rfl rfl rfl rfl rfl rfl rfl fun pb => ?_
 repeat' first | refine wk ?_ | refine wc ?_ ?_ <;> intro h <;> try omega | fail
 refine c_append rfl rfl xhol (hA1.up xpkd) rfl rfl rfl rfl rfl (by show (0 + n1) * 16 ≤ _; omega) (by omega) rfl fun a3 c3 => ?_
 repeat' first | refine wk ?_ | refine wc ?_ ?_ <;> intro h <;> try omega | fail
 refine c_append rfl rfl xhol (hA2.up xpkd) rfl rfl rfl rfl rfl (by show (0 + n1 + n2) * 16 ≤ _; omega) (by omega) rfl fun a4 c4 => ?_
 rw [List.nil_append, ← rgV_app, Nat.zero_add]
 repeat' first | refine wk ?_ | refine wc ?_ ?_ <;> intro h <;> try omega | fail
 refine c_call (s_normal (own a4 (n1 + n2) c4 187 2 (rgV (l1 ++ l2))) a4 (n1 + n2) c4 1073741824 (l1 ++ l2) (Rds.own 0 rfl) (by simp [h1, h2]) (by omega) (by omega) (fun p hp => by
  rcases List.mem_append.1 hp with h | h
  ·exact ho1 p h
  ·exact ho2 p h)) rfl xpkd rfl rfl ?_
 rintro v S ⟨a', c', l', h1, h2, rfl, rfl⟩
 refine l_tell rfl ?_
 repeat' first | refine wk ?_ | refine wc ?_ ?_ <;> intro h <;> try omega | fail
 exact b_ret [own a' (merged l').length c' 187 2 (rgV (merged l')), A1, A2] rfl (Ent.pick xpkd) ⟨a', c', l', h1, h2, rfl, rfl⟩
theorem merged_one {l' : List (Int × Int)} {p : Int × Int} (h : l'.Perm [p]) : merged l' = [p] := by
 rw [List.perm_singleton.1 h]; rfl
theorem merged_none {l' : List (Int × Int)} (h : l'.Perm []) : merged l' = [] := by
 rw [List.perm_nil.1 h]; rfl
theorem s_normal1 (A : Asn) (a : Option Addr) (c p q : Nat) (hpq : p < q) (hq : q ≤ 1073741824) (hA : Rds [A] a 1 2 (rgV [((p : Int), (q : Int))])) :
  Spec Tryz.prog 105 [.slice a 1 c] [A] (fun v S => ∃ (b' c' : Nat), v = .slice (some ⟨b', 0, none⟩) 1 c' ∧ S = [own (some ⟨b', 0, none⟩) 1 c' 187 2 (rgV [((p : Int), (q : Int))]), A]) := by
 refine (s_normal A a 1 c 1073741824 [((p : Int), (q : Int))] hA rfl (by omega) (by omega) (fun x hx => by
  rw [List.mem_singleton.1 hx]; exact ⟨by show (0 : Int) ≤ p; omega, by show (p : Int) < q; omega, by show (q : Int) ≤ _; omega⟩)).someB ?_
 rintro v S ⟨a1, c1, l1, h1, -, rfl, rfl⟩
 rw [merged_one h1]
 exact ⟨_, own_at (a := a1) .here (by show 1 ≤ 1; omega), fun ⟨b, hb⟩ => ⟨_, Ent.refl _, b, c1, by rw [hb]; rfl, by rw [hb]; rfl⟩⟩
theorem s_normal0 (A : Asn) (a : Option Addr) (c : Nat) :
  Spec Tryz.prog 105 [.slice a 0 c] [A] (fun v S => ∃ (a' : Option Addr) (c' : Nat), v = .slice a' 0 c' ∧ S = [own a' 0 c' 187 2 [], A]) := by
 refine (s_normal A a 0 c 1073741824 [] (Rds.nil _ _ _) rfl (by omega) (by omega) (fun x hx => by cases hx)).mono ?_
 rintro v S ⟨a1, c1, l1, h1, -, rfl, rfl⟩
 rw [merged_none h1]
 exact ⟨a1, c1, rfl, rfl⟩
theorem s_less1 (A : Asn) (a a0 : Option Addr) (c c0 : Nat) (p q : Nat) (hpq : p < q) (hq : q ≤ 1073741824) (hA : Rds [A] a 1 2 (rgV [((p : Int), (q : Int))])) :
  Spec Tryz.prog 322 [.slice a 1 c, .slice a0 0 c0] [A] (fun v S => ∃ (a' : Option Addr) (c' : Nat), v = .slice a' 1 c' ∧ S = [own a' 1 c' 187 2 (rgV [((p : Int), (q : Int))]), A]) := by
 refine spec_of Tryz.func322 rfl Tryz.results322 Tryz.ntmps322 rfl ?_
 repeat' first | refine t_scope ?_ | refine t_label ?_ | refine pn_ret ?_ | refine wk ?_ | refine wc ?_ ?_ <;> intro h <;> try omega | fail
 refine c_call (s_normal1 A a c p q hpq hq hA) rfl xpkd rfl rfl ?_
 rintro v S ⟨b1, c1, rfl, rfl⟩
 refine l_tell rfl ?_
 repeat' first | refine wk ?_ | refine wc ?_ ?_ <;> intro h <;> try omega | fail
 refine l_ent (ent_nil 187 2 _) ?_
 refine c_call (s_normal0 (own none 0 0 187 2 []) a0 c0) rfl xpkd rfl rfl ?_
 rintro v S ⟨a2, c2, rfl, rfl⟩
 refine l_tell rfl ?_
 repeat' first | refine t_scope ?_ | refine t_label ?_ | refine pn_ret ?_ | refine wb fun _ => ?_ | refine t_rounds 3 (rnd_succ ?_) | refine rnd_succ ?_ | refine t_draw (id := 7) (.eval 0 true (.eval 1 true (.eval 2 true (.eval 3 true (.eval 4 true (.eval 5 true (.eval 6 true (.eval 7 true (.eval 8 true (.eval 9 false (.eval 10 true (.eval 11 false (.eval 12 true (.eval 13 true .fin)))))))))))))) rfl (by kernel_rfl) ?_ | refine t_draw (id := 10) (.eval 0 true (.eval 1 true (.eval 2 true (.eval 3 true (.eval 4 true (.eval 5 true (.eval 6 true (.eval 7 true (.eval 8 true (.eval 9 false (.eval 10 true (.eval 11 false (.eval 12 true (.eval 13 true .fin)))))))))))))) rfl (by kernel_rfl) ?_ | refine wk ?_ | refine wc ?_ ?_ <;> intro h <;> try omega | refine l_qs (by (apply c_loadOA; exact rfl; (repeat (first | exact CAt.here | apply CAt.there)); exact rfl; exact rfl; exact rfl)) rfl ?_ | refine d_qs rfl (by (apply c_loadOA; exact rfl; (repeat (first | exact CAt.here | apply CAt.there)); exact rfl; exact rfl; exact rfl)) rfl ?_ | refine d_gqs rfl rfl (by (apply c_loadOA; exact rfl; (repeat (first | exact CAt.here | apply CAt.there)); exact rfl; exact rfl; exact rfl)) rfl ?_ | (refine n_eff ?_ ?_; · (repeat first | refine wre ?_ | refine r_cons rfl (by first | (apply c_loadOA; exact rfl; (repeat (first | exact CAt.here | apply CAt.there)); exact rfl; exact rfl; exact rfl) | fail) rfl ?_ | refine r_gcons rfl rfl (by first | (apply c_loadOA; exact rfl; (repeat (first | exact CAt.here | apply CAt.there)); exact rfl; exact rfl; exact rfl) | fail) rfl ?_ | exact r_nil | fail)) | fail
 refine o_buildSlice rfl rfl rfl rfl rfl rfl rfl rfl rfl rfl rfl rfl fun pb => ?_
 repeat' first | refine wk ?_ | refine wc ?_ ?_ <;> intro h <;> try omega | fail
 refine c_appendN rfl rfl (own_rds (a := some ⟨pb, 0, none⟩) xfnd) (by omega) rfl rfl rfl rfl rfl (by decide) (by omega) rfl fun b3 c3 => ?_
 repeat' first | refine t_scope ?_ | refine t_label ?_ | refine pn_ret ?_ | refine rnd_succ ?_ | refine wk ?_ | refine wc ?_ ?_ <;> intro h <;> try omega | fail
 exact b_ret [own (some ⟨b3, 0, none⟩) 1 c3 187 2 (rgV [((p : Int), (q : Int))]), A] rfl (Ent.pick xpkd) ⟨some ⟨b3, 0, none⟩, c3, rfl, rfl⟩
end Go.Ox
end
section
set_option maxRecDepth 100000
set_option maxHeartbeats 1600000
namespace Go.Ox
open Go Go.Proofs
theorem s_less2 (A B : Asn) (a a0 : Option Addr) (c c0 : Nat) (p q : Nat) (hpq : p < q) (hq : q ≤ 1073741824) (hA : Rds [A] a 1 2 (rgV [((p : Int), (q : Int))])) (hB : Rds [B] a0 1 2 (rgV [((p : Int), (q : Int))])) :
    Spec Tryz.prog 322 [.slice a 1 c, .slice a0 1 c0] [A, B] (fun v S => v = .slice none 0 0 ∧ S = [A, B]) := by
  refine spec_of Tryz.func322 rfl Tryz.results322 Tryz.ntmps322 rfl ?_
  repeat' first | refine t_scope ?_ | refine t_label ?_ | refine pn_ret ?_ | refine wk ?_ | refine wc ?_ ?_ <;> intro h <;> try omega | fail
  refine c_call (s_normal1 A a c p q hpq hq hA) rfl xpkd rfl rfl ?_
  rintro v S ⟨b1, c1, rfl, rfl⟩
  refine l_tell rfl ?_
  repeat' first | refine wk ?_ | refine wc ?_ ?_ <;> intro h <;> try omega | fail
  refine c_call (s_normal1 B a0 c0 p q hpq hq hB) rfl xpkd rfl rfl ?_
  rintro v S ⟨b2, c2, rfl, rfl⟩
  refine l_tell rfl ?_
  repeat' first | refine t_scope ?_ | refine t_label ?_ | refine pn_ret ?_ | refine wb fun _ => ?_ | refine t_rounds 3 (rnd_succ ?_) | refine rnd_succ ?_ | refine t_draw (id := 7) (.eval 0 true (.eval 1 true (.eval 2 true (.eval 3 true (.eval 4 true (.eval 5 true (.eval 6 true (.eval 7 true (.eval 8 true (.eval 9 false (.eval 10 true (.eval 11 false (.eval 12 true (.eval 13 true .fin)))))))))))))) rfl (by kernel_rfl) ?_ | refine t_draw (id := 10) (.eval 0 true (.eval 1 true (.eval 2 true (.eval 3 true (.eval 4 true (.eval 5 true (.eval 6 true (.eval 7 true (.eval 8 true (.eval 9 false (.eval 10 true (.eval 11 false (.eval 12 true (.eval 13 true .fin)))))))))))))) rfl (by kernel_rfl) ?_ | refine t_draw (id := 12) (.eval 0 true (.eval 1 true (.eval 2 true (.eval 3 true (.eval 4 false (.eval 5 true (.eval 6 false (.eval 7 true .fin)))))))) rfl (by kernel_rfl) ?_ | refine t_draw (id := 14) (.eval 0 true (.eval 1 true (.eval 2 true (.eval 3 true (.eval 4 false (.eval 5 true (.eval 6 false (.eval 7 true .fin)))))))) rfl (by kernel_rfl) ?_ | refine wk ?_ | refine wc ?_ ?_ <;> intro h <;> try omega | refine l_qs (by (apply c_loadOA; exact rfl; (repeat (first | exact CAt.here | apply CAt.there)); exact rfl; exact rfl; exact rfl)) rfl ?_ | refine d_qs rfl (by (apply c_loadOA; exact rfl; (repeat (first | exact CAt.here | apply CAt.there)); exact rfl; exact rfl; exact rfl)) rfl ?_ | refine d_gqs rfl rfl (by (apply c_loadOA; exact rfl; (repeat (first | exact CAt.here | apply CAt.there)); exact rfl; exact rfl; exact rfl)) rfl ?_ | refine l_qs (by (apply c_loadO; exact rfl; (repeat (first | exact CAt.here | apply CAt.there)); exact rfl; exact rfl; exact rfl)) rfl ?_ | refine d_qs rfl (by (apply c_loadO; exact rfl; (repeat (first | exact CAt.here | apply CAt.there)); exact rfl; exact rfl; exact rfl)) rfl ?_ | refine d_gqs rfl rfl (by (apply c_loadO; exact rfl; (repeat (first | exact CAt.here | apply CAt.there)); exact rfl; exact rfl; exact rfl)) rfl ?_ | (refine n_eff ?_ ?_; · (repeat first | refine wre ?_ | refine r_cons rfl (by first | (apply c_loadOA; exact rfl; (repeat (first | exact CAt.here | apply CAt.there)); exact rfl; exact rfl; exact rfl) | (apply c_loadO; exact rfl; (repeat (first | exact CAt.here | apply CAt.there)); exact rfl; exact rfl; exact rfl) | fail) rfl ?_ | refine r_gcons rfl rfl (by first | (apply c_loadOA; exact rfl; (repeat (first | exact CAt.here | apply CAt.there)); exact rfl; exact rfl; exact rfl) | (apply c_loadO; exact rfl; (repeat (first | exact CAt.here | apply CAt.there)); exact rfl; exact rfl; exact rfl) | fail) rfl ?_ | exact r_nil | fail)) | fail
  exact b_ret [A, B] rfl (Ent.pick xpkd) ⟨rfl, rfl⟩
theorem s_right0 (a : Option Addr) (c : Nat) : Spec Tryz.prog 323 [.slice a 0 c] [] (fun v S => v = .bool true ∧ S = []) := by
  refine spec_of Tryz.func323 rfl Tryz.results323 Tryz.ntmps323 rfl ?_
  refine t_same [] rfl ?_
  repeat' first | refine t_rounds 3 (rnd_succ ?_) | refine rnd_succ ?_ | refine wk ?_ | refine wc ?_ ?_ <;> intro h <;> try omega | fail
  exact b_ret [] rfl (fun _ _ => trivial) ⟨rfl, rfl⟩
def awL : List Pc := [⟨1, 0, 2, 1⟩, ⟨0, 3, 4, -1⟩]
def awLV : List (List Value) := [[.int .i64 1, .int .i64 0, .int .i64 2], [.int .i64 0, .int .i64 3, .int .i64 4]]
theorem awL_ok : ScOk awL := ⟨by intro p hp; rcases List.mem_cons.1 hp with rfl | hp; · exact ⟨by decide, by decide, by decide⟩
                                 rw [List.mem_singleton.1 hp]; exact ⟨by decide, by decide, by decide⟩, by decide, by decide⟩
def awF : List (List Value) := [[.int .i64 1, .int .i64 0, .int .i64 2, .int .i64 0], [.int .i64 0, .int .i64 3, .int .i64 7, .int .i64 2]]
theorem s_rbFirst (tb tc : Nat) :
    Spec Tryz.prog 324 [.slice (some ⟨tb, 0, none⟩) 2 tc] [own (some ⟨tb, 0, none⟩) 2 tc 85 3 (awLV)] (fun v S => ∃ b c, v = .slice (some ⟨b, 0, none⟩) 2 c ∧ S = [own (some ⟨b, 0, none⟩) 2 c 449 4 awF, own (some ⟨tb, 0, none⟩) 2 tc 85 3 (awLV)]) := by
  refine spec_of Tryz.func324 rfl Tryz.results324 Tryz.ntmps324 rfl ?_
  repeat' first | refine wb fun _ => ?_ | refine wk ?_ | refine wc ?_ ?_ <;> intro h <;> try omega | fail
  repeat' first | refine t_rounds 3 (rnd_succ ?_) | refine rnd_succ ?_ | refine wb fun _ => ?_ | refine wk ?_ | refine wc ?_ ?_ <;> intro h <;> try omega | refine l_qs (by (apply c_loadOA; exact rfl; (repeat (first | exact CAt.here | apply CAt.there)); exact rfl; exact rfl; exact rfl)) rfl ?_ | refine l_qs (by (apply c_loadO; exact rfl; (repeat (first | exact CAt.here | apply CAt.there)); exact rfl; exact rfl; exact rfl)) rfl ?_ | fail
  refine o_buildSlice rfl rfl rfl rfl rfl rfl rfl rfl rfl rfl rfl rfl fun pb => ?_
  repeat' first | refine wk ?_ | refine wc ?_ ?_ <;> intro h <;> try omega | fail
  refine c_call (s_less1 (own (some ⟨pb, 0, none⟩) 1 1 187 2 (rgV [(((0 : Nat) : Int), ((2 : Nat) : Int))])) (some ⟨pb, 0, none⟩) none 1 0 0 2 (by omega) (by omega) (Rds.own 0 rfl)) rfl xpkd rfl rfl ?_
  rintro v S ⟨a1, c1, rfl, rfl⟩
  refine l_tell rfl ?_
  refine l_fact (own_at (a := a1) xfnd (by show 1 ≤ 1; omega)) ?_
  rintro ⟨b1, rfl⟩
  repeat' first | refine t_rounds 3 (rnd_succ ?_) | refine rnd_succ ?_ | refine wb fun _ => ?_ | refine wk ?_ | refine wc ?_ ?_ <;> intro h <;> try omega | refine l_qs (by (apply c_loadOA; exact rfl; (repeat (first | exact CAt.here | apply CAt.there)); exact rfl; exact rfl; exact rfl)) rfl ?_ | refine l_qs (by (apply c_loadO; exact rfl; (repeat (first | exact CAt.here | apply CAt.there)); exact rfl; exact rfl; exact rfl)) rfl ?_ | fail
  refine o_buildSlice rfl rfl rfl rfl rfl rfl rfl rfl rfl rfl rfl rfl fun pb2 => ?_
  repeat' first | refine wk ?_ | refine wc ?_ ?_ <;> intro h <;> try omega | fail
  refine c_appendN rfl rfl (own_rds (a := some ⟨pb2, 0, none⟩) xfnd) (by omega) rfl rfl rfl rfl rfl (by decide) (by omega) rfl fun b3 c3 => ?_
  repeat' first | refine t_rounds 3 (rnd_succ ?_) | refine rnd_succ ?_ | refine wb fun _ => ?_ | refine t_draw (id := 13) (.eval 0 true (.eval 1 false (.eval 2 true (.eval 3 false (.eval 4 true (.eval 5 false (.eval 6 true (.eff 7 [1, 3] (.eval 8 true (.eff 9 [] .fin .stop)) .stop)))))))) rfl (by kernel_rfl) ?_ | refine wk ?_ | refine wc ?_ ?_ <;> intro h <;> try omega | refine l_qs (by (apply c_loadOA; exact rfl; (repeat (first | exact CAt.here | apply CAt.there)); exact rfl; exact rfl; exact rfl)) rfl ?_ | refine l_qs (by (apply c_loadO; exact rfl; (repeat (first | exact CAt.here | apply CAt.there)); exact rfl; exact rfl; exact rfl)) rfl ?_ | fail
  refine l_ent (ent_nil 187 2 _) ?_
  refine c_call (s_either (own none 0 0 187 2 []) (own (some ⟨pb, 0, none⟩) 1 1 187 2 (rgV [(((0 : Nat) : Int), ((2 : Nat) : Int))])) none (some ⟨pb, 0, none⟩) 0 1 0 1 [] [(((0 : Nat) : Int), ((2 : Nat) : Int))] (Rds.nil _ _ _) (Rds.own 0 rfl) rfl rfl (by omega) (by omega) (fun x hx => by cases hx) (fun x hx => by
    rw [List.mem_singleton.1 hx]; exact ⟨by decide, by decide, by decide⟩)) rfl xpkd rfl rfl ?_
  rintro v S ⟨a4, c4, l4, h4, -, rfl, rfl⟩
  refine l_tell rfl ?_
  repeat' first | refine t_rounds 3 (rnd_succ ?_) | refine rnd_succ ?_ | refine wb fun _ => ?_ | refine t_draw (id := 13) (.eval 0 true (.eval 1 false (.eval 2 true (.eval 3 false (.eval 4 true (.eval 5 false (.eval 6 true (.eff 7 [1, 3] (.eval 8 true (.eff 9 [] .fin .stop)) .stop)))))))) rfl (by kernel_rfl) ?_ | refine wk ?_ | refine wc ?_ ?_ <;> intro h <;> try omega | refine l_qs (by (apply c_loadOA; exact rfl; (repeat (first | exact CAt.here | apply CAt.there)); exact rfl; exact rfl; exact rfl)) rfl ?_ | refine l_qs (by (apply c_loadO; exact rfl; (repeat (first | exact CAt.here | apply CAt.there)); exact rfl; exact rfl; exact rfl)) rfl ?_ | fail
  refine o_buildSlice rfl rfl rfl rfl rfl rfl rfl rfl rfl rfl rfl rfl fun pb4 => ?_
  repeat' first | refine t_rounds 3 (rnd_succ ?_) | refine rnd_succ ?_ | refine wb fun _ => ?_ | refine t_draw (id := 13) (.eval 0 true (.eval 1 false (.eval 2 true (.eval 3 false (.eval 4 true (.eval 5 false (.eval 6 true (.eff 7 [1, 3] (.eval 8 true (.eff 9 [] .fin .stop)) .stop)))))))) rfl (by kernel_rfl) ?_ | refine wk ?_ | refine wc ?_ ?_ <;> intro h <;> try omega | refine l_qs (by (apply c_loadOA; exact rfl; (repeat (first | exact CAt.here | apply CAt.there)); exact rfl; exact rfl; exact rfl)) rfl ?_ | refine l_qs (by (apply c_loadO; exact rfl; (repeat (first | exact CAt.here | apply CAt.there)); exact rfl; exact rfl; exact rfl)) rfl ?_ | fail
  refine c_call (s_less1 (own (some ⟨pb4, 0, none⟩) 1 1 187 2 (rgV [(((3 : Nat) : Int), ((7 : Nat) : Int))])) (some ⟨pb4, 0, none⟩) none 1 0 3 7 (by omega) (by omega) (Rds.own 0 rfl)) rfl xpkd rfl rfl ?_
  rintro v S ⟨a5, c5, rfl, rfl⟩
  refine l_tell rfl ?_
  refine l_fact (own_at (a := a5) xfnd (by show 1 ≤ 1; omega)) ?_
  rintro ⟨b5, rfl⟩
  repeat' first | refine t_rounds 3 (rnd_succ ?_) | refine rnd_succ ?_ | refine wb fun _ => ?_ | refine t_draw (id := 13) (.eval 0 true (.eval 1 false (.eval 2 true (.eval 3 false (.eval 4 true (.eval 5 false (.eval 6 true (.eff 7 [1, 3] (.eval 8 true (.eff 9 [] .fin .stop)) .stop)))))))) rfl (by kernel_rfl) ?_ | refine wk ?_ | refine wc ?_ ?_ <;> intro h <;> try omega | refine l_qs (by (apply c_loadOA; exact rfl; (repeat (first | exact CAt.here | apply CAt.there)); exact rfl; exact rfl; exact rfl)) rfl ?_ | refine l_qs (by (apply c_loadO; exact rfl; (repeat (first | exact CAt.here | apply CAt.there)); exact rfl; exact rfl; exact rfl)) rfl ?_ | fail
  refine o_buildSlice rfl rfl rfl rfl rfl rfl rfl rfl rfl rfl rfl rfl fun pb6 => ?_
  repeat' first | refine t_rounds 3 (rnd_succ ?_) | refine rnd_succ ?_ | refine wb fun _ => ?_ | refine t_draw (id := 13) (.eval 0 true (.eval 1 false (.eval 2 true (.eval 3 false (.eval 4 true (.eval 5 false (.eval 6 true (.eff 7 [1, 3] (.eval 8 true (.eff 9 [] .fin .stop)) .stop)))))))) rfl (by kernel_rfl) ?_ | refine wk ?_ | refine wc ?_ ?_ <;> intro h <;> try omega | refine l_qs (by (apply c_loadOA; exact rfl; (repeat (first | exact CAt.here | apply CAt.there)); exact rfl; exact rfl; exact rfl)) rfl ?_ | refine l_qs (by (apply c_loadO; exact rfl; (repeat (first | exact CAt.here | apply CAt.there)); exact rfl; exact rfl; exact rfl)) rfl ?_ | fail
  refine c_appendS rfl rfl xhol (own_rds (a := some ⟨pb6, 0, none⟩) xfnd) (by omega) rfl rfl rfl rfl rfl (by decide) (by omega) rfl fun b7 c7 => ?_
  repeat' first | refine t_rounds 3 (rnd_succ ?_) | refine rnd_succ ?_ | refine wb fun _ => ?_ | refine t_draw (id := 13) (.eval 0 true (.eval 1 false (.eval 2 true (.eval 3 false (.eval 4 true (.eval 5 false (.eval 6 true (.eff 7 [1, 3] (.eval 8 true (.eff 9 [] .fin .stop)) .stop)))))))) rfl (by kernel_rfl) ?_ | refine wk ?_ | refine wc ?_ ?_ <;> intro h <;> try omega | refine l_qs (by (apply c_loadOA; exact rfl; (repeat (first | exact CAt.here | apply CAt.there)); exact rfl; exact rfl; exact rfl)) rfl ?_ | refine l_qs (by (apply c_loadO; exact rfl; (repeat (first | exact CAt.here | apply CAt.there)); exact rfl; exact rfl; exact rfl)) rfl ?_ | fail
  refine l_ent (ent_nil 187 2 _) ?_
  refine c_call (s_either (own none 0 0 187 2 []) (own (some ⟨pb4, 0, none⟩) 1 1 187 2 (rgV [(((3 : Nat) : Int), ((7 : Nat) : Int))])) none (some ⟨pb4, 0, none⟩) 0 1 0 1 [] [(((3 : Nat) : Int), ((7 : Nat) : Int))] (Rds.nil _ _ _) (Rds.own 0 rfl) rfl rfl (by omega) (by omega) (fun x hx => by cases hx) (fun x hx => by
    rw [List.mem_singleton.1 hx]; exact ⟨by decide, by decide, by decide⟩)) rfl xpkd rfl rfl ?_
  rintro v S ⟨a8, c8, l8, h8, -, rfl, rfl⟩
  refine l_tell rfl ?_
  repeat' first | refine t_rounds 3 (rnd_succ ?_) | refine rnd_succ ?_ | refine wb fun _ => ?_ | refine t_draw (id := 13) (.eval 0 true (.eval 1 false (.eval 2 true (.eval 3 false (.eval 4 true (.eval 5 false (.eval 6 true (.eff 7 [1, 3] (.eval 8 true (.eff 9 [] .fin .stop)) .stop)))))))) rfl (by kernel_rfl) ?_ | refine wk ?_ | refine wc ?_ ?_ <;> intro h <;> try omega | refine l_qs (by (apply c_loadOA; exact rfl; (repeat (first | exact CAt.here | apply CAt.there)); exact rfl; exact rfl; exact rfl)) rfl ?_ | refine l_qs (by (apply c_loadO; exact rfl; (repeat (first | exact CAt.here | apply CAt.there)); exact rfl; exact rfl; exact rfl)) rfl ?_ | fail
  exact b_ret [own (some ⟨b7, 0, none⟩) 2 c7 449 4 awF, own (some ⟨tb, 0, none⟩) 2 tc 85 3 (awLV)] rfl (Ent.pick xpkd) ⟨b7, c7, rfl, rfl⟩
theorem s_rbOne1 (fb fc : Nat) :
    Spec Tryz.prog 325 [.agg #[.slice (some ⟨fb, 0, none⟩) 2 fc, .slice none 0 0, .int .i64 2], .agg #[.int .i64 1, .int .i64 0, .int .i64 2]] [own (some ⟨fb, 0, none⟩) 2 fc 449 4 awF] (fun v S => v = .tuple #[.agg #[.int .i64 0, .int .i64 0, .int .i64 2], .bool true] ∧ S = [own (some ⟨fb, 0, none⟩) 2 fc 449 4 awF]) := by
  refine spec_of_d Tryz.func325 rfl Tryz.results325 Tryz.ntmps325 rfl ?_
  repeat' first | refine wb fun _ => ?_ | refine wk ?_ | refine wc ?_ ?_ <;> intro h <;> try omega | fail
  repeat' first | refine t_rounds 3 (rnd_succ ?_) | refine rnd_succ ?_ | refine wb fun _ => ?_ | refine wk ?_ | refine wc ?_ ?_ <;> intro h <;> try omega | refine l_qs (by (apply c_loadOA; exact rfl; (repeat (first | exact CAt.here | apply CAt.there)); exact rfl; exact rfl; exact rfl)) rfl ?_ | refine l_qs (by (apply c_loadO; exact rfl; (repeat (first | exact CAt.here | apply CAt.there)); exact rfl; exact rfl; exact rfl)) rfl ?_ | fail
  exact bd_ret (out_nil [own (some ⟨fb, 0, none⟩) 2 fc 449 4 awF] (.cons (.cell fun N D => c_loadA rfl xfnd rfl rfl rfl) (.cons (.tmp rfl) .nil)) (Ent.pick xpkd) ⟨rfl, rfl⟩)
theorem s_rbOne2 (fb fc : Nat) :
    Spec Tryz.prog 325 [.agg #[.slice (some ⟨fb, 0, none⟩) 2 fc, .slice none 0 0, .int .i64 2], .agg #[.int .i64 0, .int .i64 3, .int .i64 4]] [own (some ⟨fb, 0, none⟩) 2 fc 449 4 awF] (fun v S => v = .tuple #[.agg #[.int .i64 0, .int .i64 2, .int .i64 4], .bool true] ∧ S = [own (some ⟨fb, 0, none⟩) 2 fc 449 4 awF]) := by
  refine spec_of_d Tryz.func325 rfl Tryz.results325 Tryz.ntmps325 rfl ?_
  repeat' first | refine wb fun _ => ?_ | refine wk ?_ | refine wc ?_ ?_ <;> intro h <;> try omega | fail
  repeat' first | refine t_rounds 3 (rnd_succ ?_) | refine rnd_succ ?_ | refine wb fun _ => ?_ | refine wk ?_ | refine wc ?_ ?_ <;> intro h <;> try omega | refine l_qs (by (apply c_loadOA; exact rfl; (repeat (first | exact CAt.here | apply CAt.there)); exact rfl; exact rfl; exact rfl)) rfl ?_ | refine l_qs (by (apply c_loadO; exact rfl; (repeat (first | exact CAt.here | apply CAt.there)); exact rfl; exact rfl; exact rfl)) rfl ?_ | fail
  exact bd_ret (out_nil [own (some ⟨fb, 0, none⟩) 2 fc 449 4 awF] (.cons (.cell fun N D => c_loadA rfl xfnd rfl rfl rfl) (.cons (.tmp rfl) .nil)) (Ent.pick xpkd) ⟨rfl, rfl⟩)
end Go.Ox
end
