/- WholeKept, part 40. No condition. -/
import Derived.Test.YtonpakokjgloaaaGreatOx24
import Derived.Test.YtonpakokjgloaaaGreatOx39
set_option linter.all false
section
set_option maxRecDepth 100000
set_option maxHeartbeats 3200000
namespace Go.Ox
open Go Go.Proofs
def jn (out : List Pc) (p : Pc) : List Pc :=
 match out.getLast? with
 | none => [p]
 | some q => if q.s = p.s ∧ q.a + q.n = p.a then out.dropLast ++ [⟨q.s, q.a, q.n + p.n, q.l⟩] else out ++ [p]
theorem jn_nil (p : Pc) : jn [] p = [p] := rfl
theorem jn_snoc (o : List Pc) (q p : Pc) : jn (o ++ [q]) p = if q.s = p.s ∧ q.a + q.n = p.a then o ++ [⟨q.s, q.a, q.n + p.n, q.l⟩] else o ++ [q] ++ [p] := by
 unfold jn; simp
def joinP (ps : List Pc) : List Pc := ps.foldl jn []
theorem joinP_snoc (ps : List Pc) (i : Nat) (h : i < ps.length) : joinP (ps.take (i + 1)) = jn (joinP (ps.take i)) ps[i] := by
 unfold joinP; rw [List.take_add_one, List.getElem?_eq_getElem h, List.foldl_append]; rfl
theorem jn_sum (out : List Pc) (p : Pc) : sumN (jn out p) = sumN out + p.n := by
 rcases snoc_orG out with rfl | ⟨o, q, rfl⟩
 ·rw [jn_nil]; simp [sumN]
 ·rw [jn_snoc]; split <;> simp [sumN] <;> omega
theorem jn_ok {out : List Pc} {p : Pc} (h : ∀ x ∈ out, ScE x) (hp : ScE p) : ∀ x ∈ jn out p, ScE x := by
 rcases snoc_orG out with rfl | ⟨o, q, rfl⟩
 ·rw [jn_nil]; intro x hx; rw [List.mem_singleton.1 hx]; exact hp
 ·rw [jn_snoc]
  have hq := h q (by simp)
  obtain ⟨p1, p2, p3⟩ := hp
  obtain ⟨q1, q2, q3⟩ := hq
  split
  ·rename_i hc
   intro x hx
   rcases List.mem_append.1 hx with hx | hx
   ·exact h x (List.mem_append_left _ hx)
   ·rw [List.mem_singleton.1 hx]; exact ⟨q1, by show 1 ≤ q.n + p.n; omega, by show q.a + (q.n + p.n) ≤ _; omega⟩
  ·intro x hx
   rcases List.mem_append.1 hx with hx | hx
   ·exact h x hx
   ·rw [List.mem_singleton.1 hx]; exact ⟨p1, p2, p3⟩
theorem jn_len (out : List Pc) (p : Pc) : (jn out p).length ≤ out.length + 1 := by
 rcases snoc_orG out with rfl | ⟨o, q, rfl⟩
 ·simp [jn_nil]
 ·rw [jn_snoc]; split <;> simp
theorem fold_jn (ps : List Pc) : ∀ out : List Pc, (∀ x ∈ ps, ScE x) → (∀ x ∈ out, ScE x) → (∀ x ∈ ps.foldl jn out, ScE x) ∧ (ps.foldl jn out).length ≤ out.length + ps.length ∧ sumN (ps.foldl jn out) = sumN out + sumN ps := by
 induction ps with
 | nil => intro out _ h; exact ⟨h, by simp, by simp [sumN]⟩
 | cons p ps ih =>
  intro out h1 h2
  obtain ⟨a1, a2, a3⟩ := ih (jn out p) (fun x hx => h1 x (List.mem_cons_of_mem _ hx)) (jn_ok h2 (h1 p (List.mem_cons_self ..)))
  have e1 := jn_len out p
  have e2 := jn_sum out p
  refine ⟨a1, by simp only [List.foldl_cons, List.length_cons]; omega, ?_⟩
  simp only [List.foldl_cons]
  rw [a3, e2, show sumN (p :: ps) = p.n + sumN ps from by simp [sumN]]; omega
theorem joinP_ok {ps : List Pc} (h : ScOk ps) : ScOk (joinP ps) := by
 obtain ⟨a1, a2, a3⟩ := fold_jn ps [] h.1 (fun x hx => by cases hx)
 exact ⟨a1, by have := h.2.1; have : (joinP ps).length ≤ 0 + ps.length := a2; omega, by have := h.2.2; have : sumN (joinP ps) = 0 + sumN ps := a3; omega⟩
theorem scV_app (a b : List Pc) : scV (a ++ b) = scV a ++ scV b := by simp [scV]
theorem ScOk.take {ps : List Pc} (h : ScOk ps) (i : Nat) : ScOk (ps.take i) :=
 ⟨fun p hp => h.1 p (List.mem_of_mem_take hp), by have := h.2.1; rw [List.length_take]; omega, by have := h.2.2; have := sumN_take_le ps i; omega⟩
theorem s_joined (A : Asn) (B : Nat) (a : Option Addr) (n c : Nat) (ps : List Pc) (hA : Rds [A] a n 3 (scV ps)) (hl : ps.length = n) (hp : ScOk ps) :
  Spec Tryz.prog 329 [.slice (some ⟨B, 0, none⟩) 1 1] [own (some ⟨B, 0, none⟩) 1 1 201 1 [[.slice a n c]], A]
   (fun v S => ∃ (a' : Option Addr) (c' : Nat), v = .slice a' (joinP ps).length c' ∧ S = [own a' (joinP ps).length c' 85 3 (scV (joinP ps)), A]) := by
 have hp' := hp
 obtain ⟨p1, p2, p3⟩ := hp
 refine spec_of Tryz.func329 rfl Tryz.results329 Tryz.ntmps329 rfl ?_
 repeat' first | refine wk ?_ | refine wc ?_ ?_ <;> intro h <;> try omega | fail
 refine t_rounds 2 (rnd_succ ?_)
 repeat' first | refine wk ?_ | refine wc ?_ ?_ <;> intro h <;> try omega | refine l_qs (by (apply c_loadO; exact rfl; (repeat (first | exact CAt.here | apply CAt.there)); exact rfl; exact rfl; exact rfl)) rfl ?_ | refine d_qs rfl (by (apply c_loadO; exact rfl; (repeat (first | exact CAt.here | apply CAt.there)); exact rfl; exact rfl; exact rfl)) rfl ?_ | refine d_gqs rfl rfl (by (apply c_loadO; exact rfl; (repeat (first | exact CAt.here | apply CAt.there)); exact rfl; exact rfl; exact rfl)) rfl ?_ | (refine n_eff ?_ ?_; · (repeat first | refine wre ?_ | refine r_cons rfl (by first | (apply c_loadO; exact rfl; (repeat (first | exact CAt.here | apply CAt.there)); exact rfl; exact rfl; exact rfl) | fail) rfl ?_ | refine r_gcons rfl rfl (by first | (apply c_loadO; exact rfl; (repeat (first | exact CAt.here | apply CAt.there)); exact rfl; exact rfl; exact rfl) | fail) rfl ?_ | exact r_nil | fail)) | fail
 refine t_ent (ent_nil 85 3 _) ?_
 refine t_loop (fun mm env S => ∃ (i : Nat) (a1 : Option Addr) (c1 : Nat), i ≤ n ∧ mm = n - i ∧ env = [(3, .slice a1 (joinP (ps.take i)).length c1), (9, .slice (some ⟨B, 0, none⟩) 1 1), (10, .int .i64 1), (11, .int .i64 0), (15, .slice a n c), (16, .int .i64 (n : Int)), (17, .int .i64 (i : Int))] ∧ S = [own a1 (joinP (ps.take i)).length c1 85 3 (scV (joinP (ps.take i))), own (some ⟨B, 0, none⟩) 1 1 201 1 [[.slice a n c]], A]) n _ _ ⟨0, none, 0, by omega, by omega, rfl, rfl⟩ xlss (Ent.pick xpkd) ?_
 rintro mm env S ⟨i, a1, c1, hi, rfl, rfl, rfl⟩
 by_cases hin : i < n
 ·have hi2 : i < ps.length := by omega
  obtain ⟨g1, g2, g3⟩ := p1 _ (List.getElem_mem hi2)
  have hstep := joinP_snoc ps i hi2
  have hok := joinP_ok (hp'.take i)
  have hml : (joinP (ps.take i)).length ≤ 100000 := hok.2.1
  refine t_pure (fun h hs => (hA.up (S := [_, _, A]) xpkd).some' (by omega) h hs) ?_
  rintro ⟨b, off, rfl⟩
  have hget : (scV ps)[i]? = some [.int .i64 ((ps[i]).s : Int), .int .i64 ((ps[i]).a : Int), .int .i64 ((ps[i]).n : Int)] := scV_get hi2
  generalize ps[i] = p at *
  rcases snoc_orG (joinP (ps.take i)) with hM | ⟨o, q, hM⟩
  ·rw [hM] at hstep ⊢
   rw [jn_nil] at hstep
   rw [List.length_nil]
   repeat' first | refine wb fun _ => ?_ | refine wk ?_ | refine wc ?_ ?_ <;> intro h <;> try omega | refine l_qs (by exact q_loadRdA (j := i) (hA.up xpkd) rfl rfl rfl rfl rfl hget) rfl ?_ | refine d_qs rfl (by exact q_loadRdA (j := i) (hA.up xpkd) rfl rfl rfl rfl rfl hget) rfl ?_ | refine d_gqs rfl rfl (by exact q_loadRdA (j := i) (hA.up xpkd) rfl rfl rfl rfl rfl hget) rfl ?_ | (refine n_eff ?_ ?_; · (repeat first | refine wre ?_ | refine r_cons rfl (by first | exact q_loadRdA (j := i) (hA.up xpkd) rfl rfl rfl rfl rfl hget | fail) rfl ?_ | refine r_gcons rfl rfl (by first | exact q_loadRdA (j := i) (hA.up xpkd) rfl rfl rfl rfl rfl hget | fail) rfl ?_ | exact r_nil | fail)) | fail
   refine t_draw (id := 9) (.eval 0 true (.eval 1 true (.eval 2 true (.eval 3 true (.eval 4 true (.eval 5 true (.eval 6 true (.eval 7 false (.eval 8 true (.eval 9 false (.eval 10 true (.eval 11 true (.eval 12 true (.eval 13 true (.eval 14 true (.eval 15 true (.eval 16 true (.eval 17 false (.eval 18 true (.eval 19 true (.eval 20 true (.eval 21 true (.eval 22 false (.eval 23 true (.eval 24 true (.eval 25 false (.eval 26 true (.eval 27 true .fin)))))))))))))))))))))))))))) rfl (by kernel_rfl) ?_
   repeat' first | refine wk ?_ | refine wc ?_ ?_ <;> intro h <;> try omega | fail
   refine o_buildSlice rfl rfl rfl rfl rfl rfl rfl rfl rfl rfl rfl rfl fun pb => ?_
   repeat' first | refine wk ?_ | refine wc ?_ ?_ <;> intro h <;> try omega | fail
   refine c_append rfl rfl xhol (own_rds (a := some ⟨pb, 0, none⟩) xfnd) rfl rfl rfl rfl rfl (by show (0 + 1) * 24 ≤ _; omega) (by show 0 + 1 ≤ _; omega) rfl fun a3 c3 => ?_
   repeat' first | refine wk ?_ | refine wc ?_ ?_ <;> intro h <;> try omega | fail
   have e : (joinP (ps.take (i + 1))).length = 0 + 1 := by rw [hstep]; rfl
   refine ⟨rfl, n - (i + 1), _, _, by omega, ⟨i + 1, a3, c3, by omega, rfl, rfl, rfl⟩, (by rw [e]; exact xlss), ?_⟩
   rw [e, hstep]
   exact Ent.pick xpkd
  ·have hlen : (o ++ [q]).length = o.length + 1 := by simp
   rw [hM] at hstep hok hml ⊢
   rw [jn_snoc] at hstep
   rw [hlen] at hml ⊢
   obtain ⟨q1, q2, q3⟩ := hok.1 q (by simp)
   have hgq : (scV (o ++ [q]))[o.length]? = some [.int .i64 (q.s : Int), .int .i64 (q.a : Int), .int .i64 (q.n : Int)] := by
    rw [scV_get (ps := o ++ [q]) (by simp)]; simp [scC]
   have e1 : (((o.length + 1 : Nat) : Int) - 1) = ((o.length : Nat) : Int) := by omega
   refine t_pure (own_some (by omega)) ?_
   rintro ⟨b2, rfl, _⟩
   by_cases hs : q.s = p.s
   ·by_cases ha : q.a + q.n = p.a
    ·rw [if_pos ⟨hs, ha⟩] at hstep
     repeat' first | refine wb fun _ => ?_ | refine wk ?_ | refine wc ?_ ?_ <;> intro h <;> try omega | refine l_qs (by exact q_loadRdA (j := i) (hA.up xpkd) rfl rfl rfl rfl rfl hget) rfl ?_ | refine d_qs rfl (by exact q_loadRdA (j := i) (hA.up xpkd) rfl rfl rfl rfl rfl hget) rfl ?_ | refine d_gqs rfl rfl (by exact q_loadRdA (j := i) (hA.up xpkd) rfl rfl rfl rfl rfl hget) rfl ?_ | (refine n_eff ?_ ?_; · (repeat first | refine wre ?_ | refine r_cons rfl (by first | exact q_loadRdA (j := i) (hA.up xpkd) rfl rfl rfl rfl rfl hget | fail) rfl ?_ | refine r_gcons rfl rfl (by first | exact q_loadRdA (j := i) (hA.up xpkd) rfl rfl rfl rfl rfl hget | fail) rfl ?_ | exact r_nil | fail)) | fail
     rw [e1]
     refine t_draw (id := 9) (.eval 0 true (.eval 1 true (.eval 2 true (.eval 3 true (.eval 4 true (.eval 5 true (.eval 6 true (.eval 7 false (.eval 8 true (.eval 9 false (.eval 10 true (.eval 11 true (.eval 12 true (.eval 13 true (.eval 14 true (.eval 15 true (.eval 16 true (.eval 17 false (.eval 18 true (.eval 19 true (.eval 20 true (.eval 21 true (.eval 22 false (.eval 23 true (.eval 24 true (.eval 25 false (.eval 26 true (.eval 27 true .fin)))))))))))))))))))))))))))) rfl (by kernel_rfl) ?_
     repeat' first | refine wk ?_ | refine wc ?_ ?_ <;> intro h <;> try omega | refine l_qs (by exact q_loadRd (j := o.length) (f := 0) (own_rds (a := some ⟨b2, 0, none⟩) (n := o.length + 1) (c := c1) (els := scV (o ++ [q])) xfnd) rfl rfl rfl rfl hgq rfl) rfl ?_ | refine d_qs rfl (by exact q_loadRd (j := o.length) (f := 0) (own_rds (a := some ⟨b2, 0, none⟩) (n := o.length + 1) (c := c1) (els := scV (o ++ [q])) xfnd) rfl rfl rfl rfl hgq rfl) rfl ?_ | refine d_gqs rfl rfl (by exact q_loadRd (j := o.length) (f := 0) (own_rds (a := some ⟨b2, 0, none⟩) (n := o.length + 1) (c := c1) (els := scV (o ++ [q])) xfnd) rfl rfl rfl rfl hgq rfl) rfl ?_ | refine l_qs (by exact q_loadRd (j := o.length) (f := 1) (own_rds (a := some ⟨b2, 0, none⟩) (n := o.length + 1) (c := c1) (els := scV (o ++ [q])) xfnd) rfl rfl rfl rfl hgq rfl) rfl ?_ | refine d_qs rfl (by exact q_loadRd (j := o.length) (f := 1) (own_rds (a := some ⟨b2, 0, none⟩) (n := o.length + 1) (c := c1) (els := scV (o ++ [q])) xfnd) rfl rfl rfl rfl hgq rfl) rfl ?_ | refine d_gqs rfl rfl (by exact q_loadRd (j := o.length) (f := 1) (own_rds (a := some ⟨b2, 0, none⟩) (n := o.length + 1) (c := c1) (els := scV (o ++ [q])) xfnd) rfl rfl rfl rfl hgq rfl) rfl ?_ | refine l_qs (by exact q_loadRd (j := o.length) (f := 2) (own_rds (a := some ⟨b2, 0, none⟩) (n := o.length + 1) (c := c1) (els := scV (o ++ [q])) xfnd) rfl rfl rfl rfl hgq rfl) rfl ?_ | refine d_qs rfl (by exact q_loadRd (j := o.length) (f := 2) (own_rds (a := some ⟨b2, 0, none⟩) (n := o.length + 1) (c := c1) (els := scV (o ++ [q])) xfnd) rfl rfl rfl rfl hgq rfl) rfl ?_ | refine d_gqs rfl rfl (by exact q_loadRd (j := o.length) (f := 2) (own_rds (a := some ⟨b2, 0, none⟩) (n := o.length + 1) (c := c1) (els := scV (o ++ [q])) xfnd) rfl rfl rfl rfl hgq rfl) rfl ?_ | (refine n_eff ?_ ?_; · (repeat first | refine wre ?_ | refine r_cons rfl (by first | exact q_loadRd (j := o.length) (f := 0) (own_rds (a := some ⟨b2, 0, none⟩) (n := o.length + 1) (c := c1) (els := scV (o ++ [q])) xfnd) rfl rfl rfl rfl hgq rfl | exact q_loadRd (j := o.length) (f := 1) (own_rds (a := some ⟨b2, 0, none⟩) (n := o.length + 1) (c := c1) (els := scV (o ++ [q])) xfnd) rfl rfl rfl rfl hgq rfl | exact q_loadRd (j := o.length) (f := 2) (own_rds (a := some ⟨b2, 0, none⟩) (n := o.length + 1) (c := c1) (els := scV (o ++ [q])) xfnd) rfl rfl rfl rfl hgq rfl | fail) rfl ?_ | refine r_gcons rfl rfl (by first | exact q_loadRd (j := o.length) (f := 0) (own_rds (a := some ⟨b2, 0, none⟩) (n := o.length + 1) (c := c1) (els := scV (o ++ [q])) xfnd) rfl rfl rfl rfl hgq rfl | exact q_loadRd (j := o.length) (f := 1) (own_rds (a := some ⟨b2, 0, none⟩) (n := o.length + 1) (c := c1) (els := scV (o ++ [q])) xfnd) rfl rfl rfl rfl hgq rfl | exact q_loadRd (j := o.length) (f := 2) (own_rds (a := some ⟨b2, 0, none⟩) (n := o.length + 1) (c := c1) (els := scV (o ++ [q])) xfnd) rfl rfl rfl rfl hgq rfl | fail) rfl ?_ | exact r_nil | fail)) | fail
     refine t_draw (id := 10) (.eval 0 true (.eval 1 true (.eval 2 true (.eval 3 true (.eval 4 false (.eval 5 true (.eval 6 false (.eval 7 true (.eval 8 true (.eval 9 true (.eff 10 [] .fin .stop))))))))))) rfl (by kernel_rfl) ?_
     repeat' first | refine wk ?_ | refine wc ?_ ?_ <;> intro h <;> try omega | refine l_qs (by exact q_loadRd (j := o.length) (f := 2) (own_rds (a := some ⟨b2, 0, none⟩) (n := o.length + 1) (c := c1) (els := scV (o ++ [q])) xfnd) rfl rfl rfl rfl hgq rfl) rfl ?_ | refine d_qs rfl (by exact q_loadRd (j := o.length) (f := 2) (own_rds (a := some ⟨b2, 0, none⟩) (n := o.length + 1) (c := c1) (els := scV (o ++ [q])) xfnd) rfl rfl rfl rfl hgq rfl) rfl ?_ | refine d_gqs rfl rfl (by exact q_loadRd (j := o.length) (f := 2) (own_rds (a := some ⟨b2, 0, none⟩) (n := o.length + 1) (c := c1) (els := scV (o ++ [q])) xfnd) rfl rfl rfl rfl hgq rfl) rfl ?_ | (refine n_eff ?_ ?_; · (repeat first | refine wre ?_ | refine r_cons rfl (by first | exact q_loadRd (j := o.length) (f := 2) (own_rds (a := some ⟨b2, 0, none⟩) (n := o.length + 1) (c := c1) (els := scV (o ++ [q])) xfnd) rfl rfl rfl rfl hgq rfl | fail) rfl ?_ | refine r_gcons rfl rfl (by first | exact q_loadRd (j := o.length) (f := 2) (own_rds (a := some ⟨b2, 0, none⟩) (n := o.length + 1) (c := c1) (els := scV (o ++ [q])) xfnd) rfl rfl rfl rfl hgq rfl | fail) rfl ?_ | exact r_nil | fail)) | fail
     refine c_storeOwn (k := o.length) (f := 2) (r := [.int .i64 (q.s : Int), .int .i64 (q.a : Int), .int .i64 (q.n : Int)]) (r' := [.int .i64 (q.s : Int), .int .i64 (q.a : Int), .int .i64 ((q.n : Int) + (p.n : Int))]) rfl rfl xhol rfl rfl rfl (by omega) hgq rfl ?_
     repeat' first | refine wk ?_ | refine wc ?_ ?_ <;> intro h <;> try omega | fail
     have hse : (scV (o ++ [q])).set o.length [.int .i64 (q.s : Int), .int .i64 (q.a : Int), .int .i64 ((q.n : Int) + (p.n : Int))] = scV (o ++ [⟨q.s, q.a, q.n + p.n, q.l⟩]) := by
      rw [scV_app, scV_app, List.set_append_right _ _ (by simp [scV])]
      simp [scV, scC]
     have e : (joinP (ps.take (i + 1))).length = o.length + 1 := by rw [hstep]; simp
     refine ⟨rfl, n - (i + 1), _, _, by omega, ⟨i + 1, some ⟨b2, 0, none⟩, c1, by omega, rfl, rfl, rfl⟩, (by rw [e]; exact xlss), ?_⟩
     rw [e, hstep, ← hse]
     exact Ent.pick xpkd
    ·rw [if_neg (fun h => ha h.2)] at hstep
     repeat' first | refine wb fun _ => ?_ | refine wk ?_ | refine wc ?_ ?_ <;> intro h <;> try omega | refine l_qs (by exact q_loadRdA (j := i) (hA.up xpkd) rfl rfl rfl rfl rfl hget) rfl ?_ | refine d_qs rfl (by exact q_loadRdA (j := i) (hA.up xpkd) rfl rfl rfl rfl rfl hget) rfl ?_ | refine d_gqs rfl rfl (by exact q_loadRdA (j := i) (hA.up xpkd) rfl rfl rfl rfl rfl hget) rfl ?_ | (refine n_eff ?_ ?_; · (repeat first | refine wre ?_ | refine r_cons rfl (by first | exact q_loadRdA (j := i) (hA.up xpkd) rfl rfl rfl rfl rfl hget | fail) rfl ?_ | refine r_gcons rfl rfl (by first | exact q_loadRdA (j := i) (hA.up xpkd) rfl rfl rfl rfl rfl hget | fail) rfl ?_ | exact r_nil | fail)) | fail
     rw [e1]
     refine t_draw (id := 9) (.eval 0 true (.eval 1 true (.eval 2 true (.eval 3 true (.eval 4 true (.eval 5 true (.eval 6 true (.eval 7 false (.eval 8 true (.eval 9 false (.eval 10 true (.eval 11 true (.eval 12 true (.eval 13 true (.eval 14 true (.eval 15 true (.eval 16 true (.eval 17 false (.eval 18 true (.eval 19 true (.eval 20 true (.eval 21 true (.eval 22 false (.eval 23 true (.eval 24 true (.eval 25 false (.eval 26 true (.eval 27 true .fin)))))))))))))))))))))))))))) rfl (by kernel_rfl) ?_
     repeat' first | refine wk ?_ | refine wc ?_ ?_ <;> intro h <;> try omega | refine l_qs (by exact q_loadRd (j := o.length) (f := 0) (own_rds (a := some ⟨b2, 0, none⟩) (n := o.length + 1) (c := c1) (els := scV (o ++ [q])) xfnd) rfl rfl rfl rfl hgq rfl) rfl ?_ | refine d_qs rfl (by exact q_loadRd (j := o.length) (f := 0) (own_rds (a := some ⟨b2, 0, none⟩) (n := o.length + 1) (c := c1) (els := scV (o ++ [q])) xfnd) rfl rfl rfl rfl hgq rfl) rfl ?_ | refine d_gqs rfl rfl (by exact q_loadRd (j := o.length) (f := 0) (own_rds (a := some ⟨b2, 0, none⟩) (n := o.length + 1) (c := c1) (els := scV (o ++ [q])) xfnd) rfl rfl rfl rfl hgq rfl) rfl ?_ | refine l_qs (by exact q_loadRd (j := o.length) (f := 1) (own_rds (a := some ⟨b2, 0, none⟩) (n := o.length + 1) (c := c1) (els := scV (o ++ [q])) xfnd) rfl rfl rfl rfl hgq rfl) rfl ?_ | refine d_qs rfl (by exact q_loadRd (j := o.length) (f := 1) (own_rds (a := some ⟨b2, 0, none⟩) (n := o.length + 1) (c := c1) (els := scV (o ++ [q])) xfnd) rfl rfl rfl rfl hgq rfl) rfl ?_ | refine d_gqs rfl rfl (by exact q_loadRd (j := o.length) (f := 1) (own_rds (a := some ⟨b2, 0, none⟩) (n := o.length + 1) (c := c1) (els := scV (o ++ [q])) xfnd) rfl rfl rfl rfl hgq rfl) rfl ?_ | refine l_qs (by exact q_loadRd (j := o.length) (f := 2) (own_rds (a := some ⟨b2, 0, none⟩) (n := o.length + 1) (c := c1) (els := scV (o ++ [q])) xfnd) rfl rfl rfl rfl hgq rfl) rfl ?_ | refine d_qs rfl (by exact q_loadRd (j := o.length) (f := 2) (own_rds (a := some ⟨b2, 0, none⟩) (n := o.length + 1) (c := c1) (els := scV (o ++ [q])) xfnd) rfl rfl rfl rfl hgq rfl) rfl ?_ | refine d_gqs rfl rfl (by exact q_loadRd (j := o.length) (f := 2) (own_rds (a := some ⟨b2, 0, none⟩) (n := o.length + 1) (c := c1) (els := scV (o ++ [q])) xfnd) rfl rfl rfl rfl hgq rfl) rfl ?_ | (refine n_eff ?_ ?_; · (repeat first | refine wre ?_ | refine r_cons rfl (by first | exact q_loadRd (j := o.length) (f := 0) (own_rds (a := some ⟨b2, 0, none⟩) (n := o.length + 1) (c := c1) (els := scV (o ++ [q])) xfnd) rfl rfl rfl rfl hgq rfl | exact q_loadRd (j := o.length) (f := 1) (own_rds (a := some ⟨b2, 0, none⟩) (n := o.length + 1) (c := c1) (els := scV (o ++ [q])) xfnd) rfl rfl rfl rfl hgq rfl | exact q_loadRd (j := o.length) (f := 2) (own_rds (a := some ⟨b2, 0, none⟩) (n := o.length + 1) (c := c1) (els := scV (o ++ [q])) xfnd) rfl rfl rfl rfl hgq rfl | fail) rfl ?_ | refine r_gcons rfl rfl (by first | exact q_loadRd (j := o.length) (f := 0) (own_rds (a := some ⟨b2, 0, none⟩) (n := o.length + 1) (c := c1) (els := scV (o ++ [q])) xfnd) rfl rfl rfl rfl hgq rfl | exact q_loadRd (j := o.length) (f := 1) (own_rds (a := some ⟨b2, 0, none⟩) (n := o.length + 1) (c := c1) (els := scV (o ++ [q])) xfnd) rfl rfl rfl rfl hgq rfl | exact q_loadRd (j := o.length) (f := 2) (own_rds (a := some ⟨b2, 0, none⟩) (n := o.length + 1) (c := c1) (els := scV (o ++ [q])) xfnd) rfl rfl rfl rfl hgq rfl | fail) rfl ?_ | exact r_nil | fail)) | fail
     refine o_buildSlice rfl rfl rfl rfl rfl rfl rfl rfl rfl rfl rfl rfl fun pb => ?_
     repeat' first | refine wk ?_ | refine wc ?_ ?_ <;> intro h <;> try omega | fail
     refine c_append rfl rfl xhol (own_rds (a := some ⟨pb, 0, none⟩) xfnd) rfl rfl rfl rfl rfl (by show (o.length + 1 + 1) * 24 ≤ _; omega) (by omega) rfl fun a3 c3 => ?_
     repeat' first | refine wk ?_ | refine wc ?_ ?_ <;> intro h <;> try omega | fail
     have e : (joinP (ps.take (i + 1))).length = o.length + 1 + 1 := by rw [hstep]; simp
     refine ⟨rfl, n - (i + 1), _, _, by omega, ⟨i + 1, a3, c3, by omega, rfl, rfl, rfl⟩, (by rw [e]; exact xlss), ?_⟩
     rw [e, hstep, scV_app (o ++ [q])]
     exact Ent.pick xpkd
   ·rw [if_neg (fun h => hs h.1)] at hstep
    repeat' first | refine wb fun _ => ?_ | refine wk ?_ | refine wc ?_ ?_ <;> intro h <;> try omega | refine l_qs (by exact q_loadRdA (j := i) (hA.up xpkd) rfl rfl rfl rfl rfl hget) rfl ?_ | refine d_qs rfl (by exact q_loadRdA (j := i) (hA.up xpkd) rfl rfl rfl rfl rfl hget) rfl ?_ | refine d_gqs rfl rfl (by exact q_loadRdA (j := i) (hA.up xpkd) rfl rfl rfl rfl rfl hget) rfl ?_ | (refine n_eff ?_ ?_; · (repeat first | refine wre ?_ | refine r_cons rfl (by first | exact q_loadRdA (j := i) (hA.up xpkd) rfl rfl rfl rfl rfl hget | fail) rfl ?_ | refine r_gcons rfl rfl (by first | exact q_loadRdA (j := i) (hA.up xpkd) rfl rfl rfl rfl rfl hget | fail) rfl ?_ | exact r_nil | fail)) | fail
    rw [e1]
    refine t_draw (id := 9) (.eval 0 true (.eval 1 true (.eval 2 true (.eval 3 true (.eval 4 true (.eval 5 true (.eval 6 true (.eval 7 false (.eval 8 true (.eval 9 false (.eval 10 true (.eval 11 true (.eval 12 true (.eval 13 true (.eval 14 true (.eval 15 true (.eval 16 true (.eval 17 false (.eval 18 true (.eval 19 true (.eval 20 true (.eval 21 true (.eval 22 false (.eval 23 true (.eval 24 true (.eval 25 false (.eval 26 true (.eval 27 true .fin)))))))))))))))))))))))))))) rfl (by kernel_rfl) ?_
    repeat' first | refine wk ?_ | refine wc ?_ ?_ <;> intro h <;> try omega | refine l_qs (by exact q_loadRd (j := o.length) (f := 0) (own_rds (a := some ⟨b2, 0, none⟩) (n := o.length + 1) (c := c1) (els := scV (o ++ [q])) xfnd) rfl rfl rfl rfl hgq rfl) rfl ?_ | refine d_qs rfl (by exact q_loadRd (j := o.length) (f := 0) (own_rds (a := some ⟨b2, 0, none⟩) (n := o.length + 1) (c := c1) (els := scV (o ++ [q])) xfnd) rfl rfl rfl rfl hgq rfl) rfl ?_ | refine d_gqs rfl rfl (by exact q_loadRd (j := o.length) (f := 0) (own_rds (a := some ⟨b2, 0, none⟩) (n := o.length + 1) (c := c1) (els := scV (o ++ [q])) xfnd) rfl rfl rfl rfl hgq rfl) rfl ?_ | (refine n_eff ?_ ?_; · (repeat first | refine wre ?_ | refine r_cons rfl (by first | exact q_loadRd (j := o.length) (f := 0) (own_rds (a := some ⟨b2, 0, none⟩) (n := o.length + 1) (c := c1) (els := scV (o ++ [q])) xfnd) rfl rfl rfl rfl hgq rfl | fail) rfl ?_ | refine r_gcons rfl rfl (by first | exact q_loadRd (j := o.length) (f := 0) (own_rds (a := some ⟨b2, 0, none⟩) (n := o.length + 1) (c := c1) (els := scV (o ++ [q])) xfnd) rfl rfl rfl rfl hgq rfl | fail) rfl ?_ | exact r_nil | fail)) | fail
    refine o_buildSlice rfl rfl rfl rfl rfl rfl rfl rfl rfl rfl rfl rfl fun pb => ?_
    repeat' first | refine wk ?_ | refine wc ?_ ?_ <;> intro h <;> try omega | fail
    refine c_append rfl rfl xhol (own_rds (a := some ⟨pb, 0, none⟩) xfnd) rfl rfl rfl rfl rfl (by show (o.length + 1 + 1) * 24 ≤ _; omega) (by omega) rfl fun a3 c3 => ?_
    repeat' first | refine wk ?_ | refine wc ?_ ?_ <;> intro h <;> try omega | fail
    have e : (joinP (ps.take (i + 1))).length = o.length + 1 + 1 := by rw [hstep]; simp
    refine ⟨rfl, n - (i + 1), _, _, by omega, ⟨i + 1, a3, c3, by omega, rfl, rfl, rfl⟩, (by rw [e]; exact xlss), ?_⟩
    rw [e, hstep, scV_app (o ++ [q])]
    exact Ent.pick xpkd
 ·have e : i = n := by omega
  subst e
  rw [List.take_of_length_le (by omega)]
  repeat' first | refine wk ?_ | refine wc ?_ ?_ <;> intro h <;> try omega | fail
  refine rnd_succ ?_
  repeat' first | refine wk ?_ | refine wc ?_ ?_ <;> intro h <;> try omega | fail
  exact b_ret [own a1 (joinP ps).length c1 85 3 (scV (joinP ps)), A] rfl (Ent.pick xpkd) ⟨a1, c1, rfl, rfl⟩
theorem s_scJoin (A : Asn) (a : Option Addr) (n c : Nat) (ps : List Pc) (hA : Rds [A] a n 3 (scV ps)) (hl : ps.length = n) (hp : ScOk ps) :
  Spec Tryz.prog 326 [.slice a n c] [A] (fun v S => ∃ (a' : Option Addr) (c' : Nat), v = .slice a' (joinP ps).length c' ∧ S = [own a' (joinP ps).length c' 85 3 (scV (joinP ps)), A]) := by
 refine spec_of Tryz.func326 rfl Tryz.results326 Tryz.ntmps326 rfl ?_
 repeat' first | refine wk ?_ | refine wc ?_ ?_ <;> intro h <;> try omega | fail
 refine c_call (s_scMay A a n c ps hA hl hp) rfl xpkd rfl rfl ?_
 rintro v S ⟨rfl, rfl⟩
 refine l_tell rfl ?_
 repeat' first | refine wk ?_ | refine wc ?_ ?_ <;> intro h <;> try omega | fail
 refine o_buildSlice rfl rfl rfl rfl rfl rfl rfl rfl rfl rfl rfl rfl fun pb => ?_
 repeat' first | refine wk ?_ | refine wc ?_ ?_ <;> intro h <;> try omega | fail
 refine c_call (s_joined A pb a n c ps hA hl hp) rfl xpkd rfl rfl ?_
 rintro v S ⟨a', c', rfl, rfl⟩
 refine l_tell rfl ?_
 repeat' first | refine wk ?_ | refine wc ?_ ?_ <;> intro h <;> try omega | fail
 exact b_ret [own a' (joinP ps).length c' 85 3 (scV (joinP ps)), A] rfl (Ent.pick xpkd) ⟨a', c', rfl, rfl⟩
end Go.Ox
end
