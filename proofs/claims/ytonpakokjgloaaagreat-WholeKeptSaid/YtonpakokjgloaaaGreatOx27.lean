/- WholeKept, part 27. No condition. -/
import Derived.Test.YtonpakokjgloaaaGreatOx26
set_option linter.all false
section
set_option maxRecDepth 100000
set_option maxHeartbeats 1600000
namespace Go.Ox
open Go Go.Proofs
def pk (L : List Asn) : Asn := fun h => star L h
theorem ent_pk (L R : List Asn) : Ent (L ++ R) (pk L :: R) := Ent.fold (fun _ h => h)
theorem ent_unpk (L R : List Asn) : Ent (pk L :: R) (L ++ R) := Ent.head (fun _ h => h)
theorem rds_pk {L : List Asn} {a : Option Addr} {m z : Nat} {els : List (List Value)} (h : Rds L a m z els) : Rds [pk L] a m z els := h.ent (by have := ent_unpk L []; rwa [List.append_nil] at this)
structure JP where
 a : Option Addr
 n : Nat
 c : Nat
 ps : List Pc
def JP.ok (A : Asn) (q : JP) : Prop := PcRd A q.a q.n q.ps ∧ q.ps.length = q.n
def JP.v (q : JP) : List Value := [.slice q.a q.n q.c]
def sepd (p q : Pc) : Prop := p.s ≠ q.s ∨ p.a + p.n ≠ q.a
def Sepd : List Pc → Prop
 | p :: q :: r => sepd p q ∧ Sepd (q :: r)
 | _ => True
theorem Sepd_at : ∀ {l : List Pc} {o r : List Pc} {y x : Pc}, Sepd l → l = o ++ y :: x :: r → sepd y x := by
 intro l o
 induction o generalizing l with
 | nil => intro r y x h e; subst e; exact h.1
 | cons z o ih =>
  intro r y x h e
  subst e
  cases o with
  | nil => exact ih (l := y :: x :: r) h.2 rfl
  | cons w o => exact ih (l := w :: (o ++ y :: x :: r)) h.2 rfl
def flatJ (parts : List JP) : List Pc := parts.flatMap JP.ps
theorem flatJ_succ (parts : List JP) (i : Nat) (h : i < parts.length) : flatJ (parts.take (i + 1)) = flatJ (parts.take i) ++ (parts[i]).ps := by
 unfold flatJ; rw [List.take_add_one, List.getElem?_eq_getElem h, List.flatMap_append]; simp
theorem flatJ_split (parts : List JP) (i : Nat) (h : i < parts.length) : flatJ parts = flatJ (parts.take i) ++ (parts[i]).ps ++ flatJ (parts.drop (i + 1)) := by
 have : parts = parts.take i ++ parts[i] :: parts.drop (i + 1) := by rw [List.getElem_cons_drop, List.take_append_drop]
 conv => lhs; rw [this]
 unfold flatJ; rw [List.flatMap_append, List.flatMap_cons, List.append_assoc]
theorem s_tjoin (A : Asn) (pb pc : Nat) (parts : List JP) (hok : ∀ q ∈ parts, q.ok A) (hs : Sepd (flatJ parts)) (ho : ∀ p ∈ flatJ parts, p.a + p.n ≤ 1152921504606846) (hl : (flatJ parts).length ≤ 1000) (hpl : parts.length ≤ 1000) :
  Spec Tryz.prog 93 [.slice (some ⟨pb, 0, none⟩) parts.length pc] [own (some ⟨pb, 0, none⟩) parts.length pc 83 1 (parts.map JP.v), A] (fun v S => ∃ (a : Option Addr) (c : Nat), v = .slice a (flatJ parts).length c ∧ S = [own a (flatJ parts).length c 88 4 (pcs (flatJ parts)), A]) := by
 refine spec_of Tryz.func93 rfl Tryz.results93 Tryz.ntmps93 rfl ?_
 repeat' first | refine wk ?_ | refine wc ?_ ?_ <;> intro h <;> try omega | fail
 refine t_ent (ent_nil 88 4 _) ?_
 refine t_loop (fun mm env S => ∃ (i : Nat) (a1 : Option Addr) (c1 : Nat), i ≤ parts.length ∧ mm = parts.length - i ∧ env = [(3, .slice a1 (flatJ (parts.take i)).length c1), (9, .slice (some ⟨pb, 0, none⟩) parts.length pc), (10, .int .i64 (parts.length : Int)), (11, .int .i64 (i : Int))] ∧ S = [own a1 (flatJ (parts.take i)).length c1 88 4 (pcs (flatJ (parts.take i))), own (some ⟨pb, 0, none⟩) parts.length pc 83 1 (parts.map JP.v), A]) parts.length _ _ ⟨0, none, 0, by omega, by omega, rfl, rfl⟩ xlss (Ent.pick xpkd) ?_
 rintro mm env S ⟨i, a1, c1, hi, rfl, rfl, rfl⟩
 by_cases hin : i < parts.length
 ·have hget : (parts.map JP.v)[i]? = some [.slice (parts[i]).a (parts[i]).n (parts[i]).c] := by rw [List.getElem?_map, List.getElem?_eq_getElem hin]; rfl
  obtain ⟨hq, hql⟩ := hok _ (List.getElem_mem hin)
  have hsp := flatJ_split parts i hin
  have hsu := flatJ_succ parts i hin
  generalize parts[i] = q at *
  have hlen : (flatJ (parts.take i)).length + q.n + (flatJ (parts.drop (i + 1))).length ≤ 1000 := by
   rw [hsp, List.length_append, List.length_append] at hl; omega
  repeat' first | refine wk ?_ | refine wc ?_ ?_ <;> intro h <;> try omega | refine l_qs (by exact q_loadRd (j := i) (f := 0) (r := [.slice q.a q.n q.c]) (own_rds (a := some ⟨pb, 0, none⟩) (n := parts.length) (c := pc) (els := parts.map JP.v) xfnd) rfl (by omega) rfl rfl hget rfl) rfl ?_ | refine d_qs rfl (by exact q_loadRd (j := i) (f := 0) (r := [.slice q.a q.n q.c]) (own_rds (a := some ⟨pb, 0, none⟩) (n := parts.length) (c := pc) (els := parts.map JP.v) xfnd) rfl (by omega) rfl rfl hget rfl) rfl ?_ | refine d_gqs rfl rfl (by exact q_loadRd (j := i) (f := 0) (r := [.slice q.a q.n q.c]) (own_rds (a := some ⟨pb, 0, none⟩) (n := parts.length) (c := pc) (els := parts.map JP.v) xfnd) rfl (by omega) rfl rfl hget rfl) rfl ?_ | (refine n_eff ?_ ?_; · (repeat first | refine wre ?_ | refine r_cons rfl (by first | exact q_loadRd (j := i) (f := 0) (r := [.slice q.a q.n q.c]) (own_rds (a := some ⟨pb, 0, none⟩) (n := parts.length) (c := pc) (els := parts.map JP.v) xfnd) rfl (by omega) rfl rfl hget rfl | fail) rfl ?_ | refine r_gcons rfl rfl (by first | exact q_loadRd (j := i) (f := 0) (r := [.slice q.a q.n q.c]) (own_rds (a := some ⟨pb, 0, none⟩) (n := parts.length) (c := pc) (els := parts.map JP.v) xfnd) rfl (by omega) rfl rfl hget rfl | fail) rfl ?_ | exact r_nil | fail)) | fail
  refine t_loop (fun mm env S => ∃ (j m : Nat) (a2 : Option Addr) (c2 : Nat) (dn : List Pc), j ≤ q.n ∧ mm = q.n - j ∧ dn = flatJ (parts.take i) ++ q.ps.take j ∧ dn.length = m ∧ env = [(3, .slice a2 m c2), (9, .slice (some ⟨pb, 0, none⟩) parts.length pc), (10, .int .i64 (parts.length : Int)), (11, .int .i64 (i : Int)), (15, .slice q.a q.n q.c), (16, .int .i64 (q.n : Int)), (17, .int .i64 (j : Int))] ∧ S = [own a2 m c2 88 4 (pcs dn), own (some ⟨pb, 0, none⟩) parts.length pc 83 1 (parts.map JP.v), A]) q.n _ _ ⟨0, _, a1, c1, flatJ (parts.take i), by omega, by omega, by simp, rfl, rfl, rfl⟩ xlss (Ent.pick xpkd) ?_
  rintro mm env S ⟨j, m, a2, c2, dn, hj, rfl, hdn, hm, rfl, rfl⟩
  by_cases hjn : j < q.n
  ·have hj2 : j < q.ps.length := by omega
   have hdn2 : dn ++ [q.ps[j]] = flatJ (parts.take i) ++ q.ps.take (j + 1) := by
    rw [hdn, List.take_add_one, List.getElem?_eq_getElem hj2, List.append_assoc]; rfl
   have hml : m = (flatJ (parts.take i)).length + j := by rw [← hm, hdn, List.length_append, List.length_take]; omega
   have hcat : pcs dn ++ [(q.ps[j]).cells] = pcs (dn ++ [q.ps[j]]) := by simp [pcs]
   refine t_pure (fun h hs => (hq.up (S := [_, _, A]) xpkd).some' (by omega) h hs) ?_
   rintro ⟨b, off, hqa⟩
   rw [hqa] at hq ⊢
   have hxs : ∀ o y, dn = o ++ [y] → sepd y q.ps[j] := fun o y e => by
    refine Sepd_at hs (o := o) (r := q.ps.drop (j + 1) ++ flatJ (parts.drop (i + 1))) ?_
    rw [hsp]
    have h1 : q.ps = q.ps.take j ++ q.ps[j] :: q.ps.drop (j + 1) := by rw [List.getElem_cons_drop, List.take_append_drop]
    conv => lhs; rw [h1]
    rw [← List.append_assoc (flatJ (parts.take i)), ← hdn, e]; simp
    rw [List.drop_eq_getElem_cons hj2]; rfl
   generalize hx : q.ps[j] = x at *
   have hgx : (pcs q.ps)[j]? = some x.cells := by rw [← hx]; exact pcs_get hj2
   rcases snoc_orG dn with hd0 | ⟨o, y, hd0⟩
   ·have hm0 : m = 0 := by rw [← hm, hd0]; rfl
    subst hm0
    repeat' first | refine wb fun _ => ?_ | refine wk ?_ | refine wc ?_ ?_ <;> intro h <;> try omega | refine l_qs (by exact q_loadRdA (j := j) (hq.up xpkd) rfl rfl rfl rfl rfl hgx) rfl ?_ | refine d_qs rfl (by exact q_loadRdA (j := j) (hq.up xpkd) rfl rfl rfl rfl rfl hgx) rfl ?_ | refine d_gqs rfl rfl (by exact q_loadRdA (j := j) (hq.up xpkd) rfl rfl rfl rfl rfl hgx) rfl ?_ | (refine n_eff ?_ ?_; · (repeat first | refine wre ?_ | refine r_cons rfl (by first | exact q_loadRdA (j := j) (hq.up xpkd) rfl rfl rfl rfl rfl hgx | fail) rfl ?_ | refine r_gcons rfl rfl (by first | exact q_loadRdA (j := j) (hq.up xpkd) rfl rfl rfl rfl rfl hgx | fail) rfl ?_ | exact r_nil | fail)) | fail
    refine t_draw (.eval 0 true (.eval 1 true (.eval 2 true (.eval 3 true (.eval 4 true (.eval 5 true (.eval 6 true (.eval 7 true (.eval 8 false (.eval 9 true (.eval 10 true (.eval 11 false (.eval 12 true (.eval 13 true (.eval 14 true (.eval 15 true (.eval 16 true (.eval 17 true (.eval 18 true (.eval 19 true (.eval 20 false (.eval 21 true (.eval 22 true (.eval 23 true (.eval 24 true (.eval 25 true (.eval 26 false (.eval 27 true (.eval 28 true (.eval 29 true (.eval 30 false (.eval 31 true (.eval 32 true .fin))))))))))))))))))))))))))))))))) rfl (by kernel_rfl) ?_
    repeat' first | refine wk ?_ | refine wc ?_ ?_ <;> intro h <;> try omega | fail
    refine o_buildSlice rfl rfl rfl rfl rfl rfl rfl rfl rfl rfl rfl rfl fun pb2 => ?_
    repeat' first | refine wk ?_ | refine wc ?_ ?_ <;> intro h <;> try omega | fail
    refine c_append rfl rfl xhol (own_rds (a := some ⟨pb2, 0, none⟩) xfnd) rfl rfl rfl rfl rfl (by show (0 + 1) * 32 ≤ _; omega) (by omega) rfl fun a3 c3 => ?_
    repeat' first | refine wk ?_ | refine wc ?_ ?_ <;> intro h <;> try omega | fail
    refine ⟨rfl, q.n - (j + 1), _, _, by omega, ⟨j + 1, 0 + 1, a3, c3, dn ++ [x], by omega, rfl, hdn2, by simp [hm], rfl, rfl⟩, xlss, ?_⟩
    rw [← hcat]; exact Ent.pick xpkd
   ·have hsx := hxs o y hd0
    have hmo : m = o.length + 1 := by rw [← hm, hd0]; simp
    subst hmo
    have e1 : (((o.length + 1 : Nat) : Int) - 1) = ((o.length : Nat) : Int) := by omega
    have hgy : (pcs dn)[o.length]? = some [.int .i64 (y.s : Int), .int .i64 (y.a : Int), .int .i64 (y.n : Int), .int .i64 y.l] := by
     rw [hd0]; simp [pcs, Pc.cells]
    refine t_pure (own_some (by omega)) ?_
    rintro ⟨b2, rfl, _⟩
    have hyb : y.a + y.n ≤ 1152921504606846 := ho y (by
     rw [hsp]
     refine List.mem_append_left _ ?_
     have h1 : y ∈ flatJ (parts.take i) ++ q.ps.take j := by rw [← hdn, hd0]; simp
     rcases List.mem_append.1 h1 with h | h
     ·exact List.mem_append_left _ h
     ·exact List.mem_append_right _ (List.mem_of_mem_take h))
    by_cases hse : y.s = x.s
    ·have hna : y.a + y.n ≠ x.a := hsx.resolve_left (fun h => h hse)
     repeat' first | refine wb fun _ => ?_ | refine wk ?_ | refine wc ?_ ?_ <;> intro h <;> try omega | refine l_qs (by exact q_loadRdA (j := j) (hq.up xpkd) rfl rfl rfl rfl rfl hgx) rfl ?_ | refine d_qs rfl (by exact q_loadRdA (j := j) (hq.up xpkd) rfl rfl rfl rfl rfl hgx) rfl ?_ | refine d_gqs rfl rfl (by exact q_loadRdA (j := j) (hq.up xpkd) rfl rfl rfl rfl rfl hgx) rfl ?_ | (refine n_eff ?_ ?_; · (repeat first | refine wre ?_ | refine r_cons rfl (by first | exact q_loadRdA (j := j) (hq.up xpkd) rfl rfl rfl rfl rfl hgx | fail) rfl ?_ | refine r_gcons rfl rfl (by first | exact q_loadRdA (j := j) (hq.up xpkd) rfl rfl rfl rfl rfl hgx | fail) rfl ?_ | exact r_nil | fail)) | fail
     rw [e1]
     refine t_draw (.eval 0 true (.eval 1 true (.eval 2 true (.eval 3 true (.eval 4 true (.eval 5 true (.eval 6 true (.eval 7 true (.eval 8 false (.eval 9 true (.eval 10 true (.eval 11 false (.eval 12 true (.eval 13 true (.eval 14 true (.eval 15 true (.eval 16 true (.eval 17 true (.eval 18 true (.eval 19 true (.eval 20 false (.eval 21 true (.eval 22 true (.eval 23 true (.eval 24 true (.eval 25 true (.eval 26 false (.eval 27 true (.eval 28 true (.eval 29 true (.eval 30 false (.eval 31 true (.eval 32 true .fin))))))))))))))))))))))))))))))))) rfl (by kernel_rfl) ?_
     repeat' first | refine wk ?_ | refine wc ?_ ?_ <;> intro h <;> try omega | refine l_qs (by exact q_loadRd (j := o.length) (f := 0) (r := [.int .i64 (y.s : Int), .int .i64 (y.a : Int), .int .i64 (y.n : Int), .int .i64 y.l]) (own_rds (a := some ⟨b2, 0, none⟩) (n := o.length + 1) (c := c2) (els := pcs dn) xfnd) rfl (by omega) rfl rfl hgy rfl) rfl ?_ | refine d_qs rfl (by exact q_loadRd (j := o.length) (f := 0) (r := [.int .i64 (y.s : Int), .int .i64 (y.a : Int), .int .i64 (y.n : Int), .int .i64 y.l]) (own_rds (a := some ⟨b2, 0, none⟩) (n := o.length + 1) (c := c2) (els := pcs dn) xfnd) rfl (by omega) rfl rfl hgy rfl) rfl ?_ | refine d_gqs rfl rfl (by exact q_loadRd (j := o.length) (f := 0) (r := [.int .i64 (y.s : Int), .int .i64 (y.a : Int), .int .i64 (y.n : Int), .int .i64 y.l]) (own_rds (a := some ⟨b2, 0, none⟩) (n := o.length + 1) (c := c2) (els := pcs dn) xfnd) rfl (by omega) rfl rfl hgy rfl) rfl ?_ | refine l_qs (by exact q_loadRd (j := o.length) (f := 1) (r := [.int .i64 (y.s : Int), .int .i64 (y.a : Int), .int .i64 (y.n : Int), .int .i64 y.l]) (own_rds (a := some ⟨b2, 0, none⟩) (n := o.length + 1) (c := c2) (els := pcs dn) xfnd) rfl (by omega) rfl rfl hgy rfl) rfl ?_ | refine d_qs rfl (by exact q_loadRd (j := o.length) (f := 1) (r := [.int .i64 (y.s : Int), .int .i64 (y.a : Int), .int .i64 (y.n : Int), .int .i64 y.l]) (own_rds (a := some ⟨b2, 0, none⟩) (n := o.length + 1) (c := c2) (els := pcs dn) xfnd) rfl (by omega) rfl rfl hgy rfl) rfl ?_ | refine d_gqs rfl rfl (by exact q_loadRd (j := o.length) (f := 1) (r := [.int .i64 (y.s : Int), .int .i64 (y.a : Int), .int .i64 (y.n : Int), .int .i64 y.l]) (own_rds (a := some ⟨b2, 0, none⟩) (n := o.length + 1) (c := c2) (els := pcs dn) xfnd) rfl (by omega) rfl rfl hgy rfl) rfl ?_ | refine l_qs (by exact q_loadRd (j := o.length) (f := 2) (r := [.int .i64 (y.s : Int), .int .i64 (y.a : Int), .int .i64 (y.n : Int), .int .i64 y.l]) (own_rds (a := some ⟨b2, 0, none⟩) (n := o.length + 1) (c := c2) (els := pcs dn) xfnd) rfl (by omega) rfl rfl hgy rfl) rfl ?_ | refine d_qs rfl (by exact q_loadRd (j := o.length) (f := 2) (r := [.int .i64 (y.s : Int), .int .i64 (y.a : Int), .int .i64 (y.n : Int), .int .i64 y.l]) (own_rds (a := some ⟨b2, 0, none⟩) (n := o.length + 1) (c := c2) (els := pcs dn) xfnd) rfl (by omega) rfl rfl hgy rfl) rfl ?_ | refine d_gqs rfl rfl (by exact q_loadRd (j := o.length) (f := 2) (r := [.int .i64 (y.s : Int), .int .i64 (y.a : Int), .int .i64 (y.n : Int), .int .i64 y.l]) (own_rds (a := some ⟨b2, 0, none⟩) (n := o.length + 1) (c := c2) (els := pcs dn) xfnd) rfl (by omega) rfl rfl hgy rfl) rfl ?_ | (refine n_eff ?_ ?_; · (repeat first | refine wre ?_ | refine r_cons rfl (by first | exact q_loadRd (j := o.length) (f := 0) (r := [.int .i64 (y.s : Int), .int .i64 (y.a : Int), .int .i64 (y.n : Int), .int .i64 y.l]) (own_rds (a := some ⟨b2, 0, none⟩) (n := o.length + 1) (c := c2) (els := pcs dn) xfnd) rfl (by omega) rfl rfl hgy rfl | exact q_loadRd (j := o.length) (f := 1) (r := [.int .i64 (y.s : Int), .int .i64 (y.a : Int), .int .i64 (y.n : Int), .int .i64 y.l]) (own_rds (a := some ⟨b2, 0, none⟩) (n := o.length + 1) (c := c2) (els := pcs dn) xfnd) rfl (by omega) rfl rfl hgy rfl | exact q_loadRd (j := o.length) (f := 2) (r := [.int .i64 (y.s : Int), .int .i64 (y.a : Int), .int .i64 (y.n : Int), .int .i64 y.l]) (own_rds (a := some ⟨b2, 0, none⟩) (n := o.length + 1) (c := c2) (els := pcs dn) xfnd) rfl (by omega) rfl rfl hgy rfl | fail) rfl ?_ | refine r_gcons rfl rfl (by first | exact q_loadRd (j := o.length) (f := 0) (r := [.int .i64 (y.s : Int), .int .i64 (y.a : Int), .int .i64 (y.n : Int), .int .i64 y.l]) (own_rds (a := some ⟨b2, 0, none⟩) (n := o.length + 1) (c := c2) (els := pcs dn) xfnd) rfl (by omega) rfl rfl hgy rfl | exact q_loadRd (j := o.length) (f := 1) (r := [.int .i64 (y.s : Int), .int .i64 (y.a : Int), .int .i64 (y.n : Int), .int .i64 y.l]) (own_rds (a := some ⟨b2, 0, none⟩) (n := o.length + 1) (c := c2) (els := pcs dn) xfnd) rfl (by omega) rfl rfl hgy rfl | exact q_loadRd (j := o.length) (f := 2) (r := [.int .i64 (y.s : Int), .int .i64 (y.a : Int), .int .i64 (y.n : Int), .int .i64 y.l]) (own_rds (a := some ⟨b2, 0, none⟩) (n := o.length + 1) (c := c2) (els := pcs dn) xfnd) rfl (by omega) rfl rfl hgy rfl | fail) rfl ?_ | exact r_nil | fail)) | fail
     refine o_buildSlice rfl rfl rfl rfl rfl rfl rfl rfl rfl rfl rfl rfl fun pb2 => ?_
     repeat' first | refine wk ?_ | refine wc ?_ ?_ <;> intro h <;> try omega | fail
     refine c_append rfl rfl xhol (own_rds (a := some ⟨pb2, 0, none⟩) xfnd) rfl rfl rfl rfl rfl (by show (o.length + 1 + 1) * 32 ≤ _; omega) (by omega) rfl fun a3 c3 => ?_
     repeat' first | refine wk ?_ | refine wc ?_ ?_ <;> intro h <;> try omega | fail
     refine ⟨rfl, q.n - (j + 1), _, _, by omega, ⟨j + 1, o.length + 1 + 1, a3, c3, dn ++ [x], by omega, rfl, hdn2, by simp [hm], rfl, rfl⟩, xlss, ?_⟩
     rw [← hcat]; exact Ent.pick xpkd
    ·repeat' first | refine wb fun _ => ?_ | refine wk ?_ | refine wc ?_ ?_ <;> intro h <;> try omega | refine l_qs (by exact q_loadRdA (j := j) (hq.up xpkd) rfl rfl rfl rfl rfl hgx) rfl ?_ | refine d_qs rfl (by exact q_loadRdA (j := j) (hq.up xpkd) rfl rfl rfl rfl rfl hgx) rfl ?_ | refine d_gqs rfl rfl (by exact q_loadRdA (j := j) (hq.up xpkd) rfl rfl rfl rfl rfl hgx) rfl ?_ | (refine n_eff ?_ ?_; · (repeat first | refine wre ?_ | refine r_cons rfl (by first | exact q_loadRdA (j := j) (hq.up xpkd) rfl rfl rfl rfl rfl hgx | fail) rfl ?_ | refine r_gcons rfl rfl (by first | exact q_loadRdA (j := j) (hq.up xpkd) rfl rfl rfl rfl rfl hgx | fail) rfl ?_ | exact r_nil | fail)) | fail
     rw [e1]
     refine t_draw (.eval 0 true (.eval 1 true (.eval 2 true (.eval 3 true (.eval 4 true (.eval 5 true (.eval 6 true (.eval 7 true (.eval 8 false (.eval 9 true (.eval 10 true (.eval 11 false (.eval 12 true (.eval 13 true (.eval 14 true (.eval 15 true (.eval 16 true (.eval 17 true (.eval 18 true (.eval 19 true (.eval 20 false (.eval 21 true (.eval 22 true (.eval 23 true (.eval 24 true (.eval 25 true (.eval 26 false (.eval 27 true (.eval 28 true (.eval 29 true (.eval 30 false (.eval 31 true (.eval 32 true .fin))))))))))))))))))))))))))))))))) rfl (by kernel_rfl) ?_
     repeat' first | refine wk ?_ | refine wc ?_ ?_ <;> intro h <;> try omega | refine l_qs (by exact q_loadRd (j := o.length) (f := 0) (r := [.int .i64 (y.s : Int), .int .i64 (y.a : Int), .int .i64 (y.n : Int), .int .i64 y.l]) (own_rds (a := some ⟨b2, 0, none⟩) (n := o.length + 1) (c := c2) (els := pcs dn) xfnd) rfl (by omega) rfl rfl hgy rfl) rfl ?_ | refine d_qs rfl (by exact q_loadRd (j := o.length) (f := 0) (r := [.int .i64 (y.s : Int), .int .i64 (y.a : Int), .int .i64 (y.n : Int), .int .i64 y.l]) (own_rds (a := some ⟨b2, 0, none⟩) (n := o.length + 1) (c := c2) (els := pcs dn) xfnd) rfl (by omega) rfl rfl hgy rfl) rfl ?_ | refine d_gqs rfl rfl (by exact q_loadRd (j := o.length) (f := 0) (r := [.int .i64 (y.s : Int), .int .i64 (y.a : Int), .int .i64 (y.n : Int), .int .i64 y.l]) (own_rds (a := some ⟨b2, 0, none⟩) (n := o.length + 1) (c := c2) (els := pcs dn) xfnd) rfl (by omega) rfl rfl hgy rfl) rfl ?_ | (refine n_eff ?_ ?_; · (repeat first | refine wre ?_ | refine r_cons rfl (by first | exact q_loadRd (j := o.length) (f := 0) (r := [.int .i64 (y.s : Int), .int .i64 (y.a : Int), .int .i64 (y.n : Int), .int .i64 y.l]) (own_rds (a := some ⟨b2, 0, none⟩) (n := o.length + 1) (c := c2) (els := pcs dn) xfnd) rfl (by omega) rfl rfl hgy rfl | fail) rfl ?_ | refine r_gcons rfl rfl (by first | exact q_loadRd (j := o.length) (f := 0) (r := [.int .i64 (y.s : Int), .int .i64 (y.a : Int), .int .i64 (y.n : Int), .int .i64 y.l]) (own_rds (a := some ⟨b2, 0, none⟩) (n := o.length + 1) (c := c2) (els := pcs dn) xfnd) rfl (by omega) rfl rfl hgy rfl | fail) rfl ?_ | exact r_nil | fail)) | fail
     refine o_buildSlice rfl rfl rfl rfl rfl rfl rfl rfl rfl rfl rfl rfl fun pb2 => ?_
     repeat' first | refine wk ?_ | refine wc ?_ ?_ <;> intro h <;> try omega | fail
     refine c_append rfl rfl xhol (own_rds (a := some ⟨pb2, 0, none⟩) xfnd) rfl rfl rfl rfl rfl (by show (o.length + 1 + 1) * 32 ≤ _; omega) (by omega) rfl fun a3 c3 => ?_
     repeat' first | refine wk ?_ | refine wc ?_ ?_ <;> intro h <;> try omega | fail
     refine ⟨rfl, q.n - (j + 1), _, _, by omega, ⟨j + 1, o.length + 1 + 1, a3, c3, dn ++ [x], by omega, rfl, hdn2, by simp [hm], rfl, rfl⟩, xlss, ?_⟩
     rw [← hcat]; exact Ent.pick xpkd
  ·have ej : j = q.n := by omega
   subst ej
   have hd : dn = flatJ (parts.take (i + 1)) := by rw [hdn, hsu, List.take_of_length_le (Nat.le_of_eq hql)]
   subst hd
   repeat' first | refine wk ?_ | refine wc ?_ ?_ <;> intro h <;> try omega | fail
   subst hm
   exact ⟨rfl, parts.length - (i + 1), _, _, by omega, ⟨i + 1, a2, c2, by omega, rfl, rfl, rfl⟩, xlss, Ent.pick xpkd⟩
 ·have e : i = parts.length := by omega
  subst e
  rw [List.take_of_length_le (Nat.le_refl _)]
  repeat' first | refine wk ?_ | refine wc ?_ ?_ <;> intro h <;> try omega | fail
  exact b_ret [own a1 (flatJ parts).length c1 88 4 (pcs (flatJ parts)), A] rfl (Ent.pick xpkd) ⟨a1, c1, rfl, rfl⟩
end Go.Ox
end
