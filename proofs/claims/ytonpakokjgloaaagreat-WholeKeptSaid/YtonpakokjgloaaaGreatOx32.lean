/- WholeKept, part 32. No condition. -/
import Derived.Test.YtonpakokjgloaaaGreatOx29
import Derived.Test.YtonpakokjgloaaaGreatOx31
set_option linter.all false
section
set_option maxRecDepth 100000
set_option maxHeartbeats 1600000
namespace Go.Ox
open Go Go.Proofs
theorem s_tpages0 (T : Nat) : Spec Tryz.prog 227 [.pointer (some ⟨T, 0, none⟩), .int .i64 0] [] (fun v S => v = .tuple #[.slice none 0 0, .int .i64 0] ∧ S = []) := by
 refine spec_of_d Tryz.func227 rfl Tryz.results227 Tryz.ntmps227 rfl ?_
 repeat' first | refine wk ?_ | refine wc ?_ ?_ <;> intro h <;> try omega | fail
 refine o_alloc rfl rfl fun r4 => ?_
 refine o_alloc rfl rfl fun r5 => ?_
 repeat' first | refine wk ?_ | refine wc ?_ ?_ <;> intro h <;> try omega | fail
 refine l_defer rfl rfl ?_
 repeat' first | refine wk ?_ | refine wc ?_ ?_ <;> intro h <;> try omega | fail
 refine bd_ret (out_recov (d_300 _ _) rfl rfl ?_)
 exact out_nil [] (.cons (.cell fun N D => c_load (b := r4) rfl xfnd rfl rfl rfl) (.cons (.cell fun N D => c_load (b := r5) rfl xfnd rfl rfl rfl) .nil)) (fun _ _ => trivial) ⟨rfl, rfl⟩
theorem s_tpages (T s : Nat) (K : SK) (hK : K.ok) (pg : Nat → Option (List Nat)) (sl fu no : Nat) (ps : List Pc) (hp : pg no = some (lfB no ps)) (hps : LfOk ps) (h0 : 1 ≤ no) (hno : no < 1048576) :
  Spec Tryz.prog 227 [.pointer (some ⟨T, 0, none⟩), .int .i64 no] [trC T K.cc s, stC K pg sl (fu + 256 * K.n)] (fun v S => ∃ (a : Option Addr) (c : Nat), v = .tuple #[.slice a 1 c, .int .i64 0] ∧ S = [own a 1 c 3 1 (natsV [no]), trC T K.cc s, stC K pg sl fu]) := by
 refine spec_of_d Tryz.func227 rfl Tryz.results227 Tryz.ntmps227 rfl ?_
 repeat' first | refine wk ?_ | refine wc ?_ ?_ <;> intro h <;> try omega | fail
 refine o_alloc rfl rfl fun r4 => ?_
 refine o_alloc rfl rfl fun r5 => ?_
 repeat' first | refine wk ?_ | refine wc ?_ ?_ <;> intro h <;> try omega | fail
 refine l_defer rfl rfl ?_
 repeat' first | refine wk ?_ | refine wc ?_ ?_ <;> intro h <;> try omega | fail
 refine c_makeMap rfl rfl rfl rfl rfl fun mb => ?_
 repeat' first | refine wk ?_ | refine wc ?_ ?_ <;> intro h <;> try omega | fail
 refine o_alloc rfl rfl fun b6 => ?_
 repeat' first | refine wk ?_ | refine wc ?_ ?_ <;> intro h <;> try omega | fail
 refine o_alloc rfl rfl fun b7 => ?_
 repeat' first | refine wk ?_ | refine wc ?_ ?_ <;> intro h <;> try omega | fail
 refine c_call (s_twalkP T s b6 b7 mb K hK pg sl fu no ps hp hps hno) rfl xpkd rfl rfl ?_
 rintro v S ⟨a', c', rfl⟩
 refine l_tell rfl ?_
 repeat' first | refine wk ?_ | refine wc ?_ ?_ <;> intro h <;> try omega | fail
 refine c_call (s_normal (own a' 1 c' 187 2 (rgV [((no : Int), (no : Int) + 1)])) a' 1 c' 1048576 [((no : Int), (no : Int) + 1)] (Rds.own 0 rfl) rfl (by omega) (by omega) (by
  intro p hp
  rw [List.mem_singleton.1 hp]
  refine ⟨?_, ?_, ?_⟩ <;> simp only [] <;> omega)) rfl xpkd rfl rfl ?_
 rintro v S ⟨a2, c2, l', hperm, _, rfl, rfl⟩
 have hl' : l' = [((no : Int), (no : Int) + 1)] := List.perm_singleton.1 hperm
 subst hl'
 rw [show merged [((no : Int), (no : Int) + 1)] = [((no : Int), (no : Int) + 1)] from rfl]
 refine l_same [own a2 1 c2 187 2 (rgV [((no : Int), (no : Int) + 1)]), own a' 1 c' 187 2 (rgV [((no : Int), (no : Int) + 1)]), cellsAt b6 150 [.map (some mb)], amap mb kInt (usM [no]), cellsAt b7 106 [.slice a' 1 c'], trC T K.cc s, stC K pg sl fu, cellsAt r5 29 [.int .i64 0], cellsAt r4 63 [.slice none 0 0]] rfl ?_
 refine l_fact (own_some (by omega)) ?_
 rintro ⟨b2, rfl, _⟩
 repeat' first | refine wk ?_ | refine wc ?_ ?_ <;> intro h <;> try omega | fail
 refine t_ent (ent_nil 3 1 _) ?_
 refine t_loop (fun mm env S => ∃ (i : Nat) (a3 : Option Addr) (c3 : Nat), i ≤ 1 ∧ mm = 1 - i ∧ env = [(4, .pointer (some ⟨r4, 0, none⟩)), (5, .pointer (some ⟨r5, 0, none⟩)), (22, .slice (some ⟨b2, 0, none⟩) 1 c2), (23, .int .i64 ((1 : Nat) : Int)), (24, .int .i64 (i : Int))] ∧ S = [own a3 i c3 3 1 (natsV ([no].take i)), own (some ⟨b2, 0, none⟩) 1 c2 187 2 (rgV [((no : Int), (no : Int) + 1)]), cellsAt r4 63 [.slice a3 i c3], cellsAt r5 29 [.int .i64 0], trC T K.cc s, stC K pg sl fu]) 1 _ _ ⟨0, none, 0, by omega, by omega, rfl, rfl⟩ xlss (Ent.pick xpkd) ?_
 rintro mm env S ⟨i, a3, c3, hi, rfl, rfl, rfl⟩
 obtain rfl | rfl : i = 0 ∨ i = 1 := by omega
 ·repeat' first | refine wb fun _ => ?_ | refine wk ?_ | refine wc ?_ ?_ <;> intro h <;> try omega | refine l_qs (by exact q_loadRdA (j := 0) (r := [.int .i64 (no : Int), .int .i64 ((no : Int) + 1)]) (own_rds (a := some ⟨b2, 0, none⟩) (n := 1) (c := c2) (els := rgV [((no : Int), (no : Int) + 1)]) xfnd) rfl rfl rfl rfl rfl rfl) rfl ?_ | fail
  rename_i r9
  refine t_loop (fun mm env S => ∃ (j : Nat) (a3 : Option Addr) (c3 : Nat), j ≤ 1 ∧ mm = 1 - j ∧ env = [(4, .pointer (some ⟨r4, 0, none⟩)), (5, .pointer (some ⟨r5, 0, none⟩)), (9, .pointer (some ⟨r9, 0, none⟩)), (10, .int .i64 ((no + j : Nat) : Int)), (22, .slice (some ⟨b2, 0, none⟩) 1 c2), (23, .int .i64 ((1 : Nat) : Int)), (24, .int .i64 0)] ∧ S = [own a3 j c3 3 1 (natsV ([no].take j)), own (some ⟨b2, 0, none⟩) 1 c2 187 2 (rgV [((no : Int), (no : Int) + 1)]), cellsAt r4 63 [.slice a3 j c3], cellsAt r5 29 [.int .i64 0], trC T K.cc s, stC K pg sl fu, cellsAt r9 187 [.int .i64 (no : Int), .int .i64 ((no : Int) + 1)]]) 1 _ _ ⟨0, a3, c3, by omega, by omega, rfl, rfl⟩ xlss (Ent.pick xpkd) ?_
  rintro mm env S ⟨j, a3, c3, hj, rfl, rfl, rfl⟩
  obtain rfl | rfl : j = 0 ∨ j = 1 := by omega
  ·repeat' first | refine wk ?_ | refine wc ?_ ?_ <;> intro h <;> try omega | fail
   refine o_buildSlice rfl rfl rfl rfl rfl rfl rfl rfl rfl rfl rfl rfl fun pb => ?_
   repeat' first | refine wk ?_ | refine wc ?_ ?_ <;> intro h <;> try omega | fail
   refine c_append rfl rfl xhol (own_rds (a := some ⟨pb, 0, none⟩) xfnd) rfl rfl rfl rfl rfl (by show (0 + 1) * 8 ≤ _; omega) (by omega) rfl fun a5 c5 => ?_
   repeat' first | refine wk ?_ | refine wc ?_ ?_ <;> intro h <;> try omega | fail
   exact ⟨rfl, 0, _, _, by omega, ⟨1, a5, c5, by omega, rfl, rfl, rfl⟩, xlss, Ent.pick xpkd⟩
  ·repeat' first | refine wk ?_ | refine wc ?_ ?_ <;> intro h <;> try omega | fail
   exact ⟨rfl, 0, _, _, by omega, ⟨1, a3, c3, by omega, rfl, rfl, rfl⟩, xlss, Ent.pick xpkd⟩
 ·repeat' first | refine wk ?_ | refine wc ?_ ?_ <;> intro h <;> try omega | fail
  refine bd_ret (out_recov (d_300 _ _) rfl rfl ?_)
  exact out_nil [own a3 1 c3 3 1 (natsV [no]), trC T K.cc s, stC K pg sl fu] (.cons (.cell fun N D => c_load (b := r4) rfl xfnd rfl rfl rfl) (.cons (.cell fun N D => c_load (b := r5) rfl xfnd rfl rfl rfl) .nil)) (Ent.pick xpkd) ⟨a3, c3, rfl, rfl⟩
section
variable {N : Nat} {D : List Deferred} {env : KEnv} {S : List Asn} {Q : Post} {ops rest : List Oper} {t : TypeId} {pos : String} {aft : Array Edge} {x y z : Operand} {b k : Nat} {us : List Nat} {f : Asn → List Asn}
theorem c_usPut (hx : ev env x = some (.map (some b))) (hy : ev env y = some (.int .i64 (k : Int))) (hz : ev env z = some (.bool true)) (hc : Hole S (amap b kInt (usM us)) f)
  (next : ∀ us', (∀ j, j ∈ us' ↔ j = k ∨ j ∈ us) → us'.length ≤ us.length + 1 → TripL Tryz.prog N ops rest D env (f (amap b kInt (usM us'))) Q) : TripL Tryz.prog N ops (⟨none, .mapUpdate 150 x y z, t, pos, aft, none⟩ :: rest) D env S Q := by
 by_cases hmem : k ∈ us
 ·obtain ⟨l1, l2, he⟩ := List.append_of_mem hmem
  refine c_mapSet (old := .bool true) (l2 := usM (l1 ++ l2)) hx hy hz hc rfl rfl rfl rfl rfl (by rw [he]; exact List.perm_middle.map _) ?_
  refine next (k :: (l1 ++ l2)) (fun j => ?_) (by rw [he]; simp)
  rw [he]; simp only [List.mem_cons, List.mem_append]
  constructor
  ·rintro (h | h | h)
   ·exact .inl h
   ·exact .inr (.inl h)
   ·exact .inr (.inr (.inr h))
  ·rintro (h | h | h | h)
   ·exact .inl h
   ·exact .inr (.inl h)
   ·exact .inl h
   ·exact .inr (.inr h)
 ·exact c_mapAdd hx hy hz hc rfl rfl rfl rfl rfl (usM_no hmem) (next (k :: us) (fun j => List.mem_cons) (by simp))
end
theorem natsV_ints (ys : List Nat) : natsV ys = intsV (ys.map fun (k : Nat) => (k : Int)) := by simp [natsV, intsV]
theorem sorted_nats (ys : List Nat) : ∃ ys' : List Nat, ys'.Perm ys ∧ intsV ((ys.map fun (k : Nat) => (k : Int)).mergeSort fun x y => decide (x ≤ y)) = natsV ys' := by
 have hp := List.mergeSort_perm (ys.map fun (k : Nat) => (k : Int)) (fun x y => decide (x ≤ y))
 generalize (ys.map fun (k : Nat) => (k : Int)).mergeSort (fun x y => decide (x ≤ y)) = zs at hp
 have hz : zs = (zs.map Int.toNat).map fun (k : Nat) => (k : Int) := by
  rw [List.map_map]
  conv => lhs; rw [← List.map_id zs]
  apply List.map_congr_left
  intro z hz
  obtain ⟨k, _, rfl⟩ := List.mem_map.1 (hp.mem_iff.1 hz)
  rfl
 refine ⟨zs.map Int.toNat, ?_, by rw [natsV_ints, ← hz]⟩
 have := hp.map Int.toNat
 rw [List.map_map] at this
 have e : ys.map (Int.toNat ∘ fun (k : Nat) => (k : Int)) = ys := by
  conv => rhs; rw [← List.map_id ys]
  apply List.map_congr_left
  intro k _; rfl
 rwa [e] at this
def vRoots (vs : List Vn) (k : Nat) : Prop := k ≠ 0 ∧ ∃ v ∈ vs, v.r = k
theorem s_census (A : Asn) (T s : Nat) (K : SK) (hK : K.ok) (pg : Nat → Option (List Nat)) (sl fu : Nat) (a : Option Addr) (n c : Nat) (vs : List Vn) (hA : Rds [A] a n 2 (vsV vs)) (hl : vs.length = n) (hn : n ≤ 1000) (ho : ∀ v ∈ vs, v.ok) (hv : ∀ v ∈ vs, v.r ≠ 0 → ∃ ps, pg v.r = some (lfB v.r ps) ∧ LfOk ps) :
  Spec Tryz.prog 160 [.pointer (some ⟨T, 0, none⟩), .slice a n c] [trC T K.cc s, stC K pg sl (fu + 256 * K.n * n), A] (fun v S => ∃ (a' : Option Addr) (c' : Nat) (ks : List Nat), (∀ k, k ∈ ks ↔ vRoots vs k) ∧ ks.length ≤ n ∧ v = .tuple #[.slice a' ks.length c', .int .i64 0] ∧ S = [own a' ks.length c' 3 1 (natsV ks), trC T K.cc s, stC K pg sl fu, A]) := by
 refine spec_of Tryz.func160 rfl Tryz.results160 Tryz.ntmps160 rfl ?_
 repeat' first | refine wk ?_ | refine wc ?_ ?_ <;> intro h <;> try omega | fail
 refine c_makeMap rfl rfl rfl rfl rfl fun mb => ?_
 repeat' first | refine wk ?_ | refine wc ?_ ?_ <;> intro h <;> try omega | fail
 refine t_loop (fun mm env S => ∃ (i : Nat) (us : List Nat), i ≤ n ∧ mm = n - i ∧ (∀ k, k ∈ us ↔ vRoots (vs.take i) k) ∧ us.length ≤ i ∧ env = [(0, .pointer (some ⟨T, 0, none⟩)), (6, .map (some mb)), (18, .slice a n c), (19, .int .i64 (n : Int)), (20, .int .i64 (i : Int))] ∧ S = [stC K pg sl (fu + 256 * K.n * (n - i)), amap mb kInt (usM us), trC T K.cc s, A]) n _ _ ⟨0, [], by omega, by omega, (fun k => by simp [vRoots]), by simp, rfl, rfl⟩ xlss (Ent.pick xpkd) ?_
 rintro mm env S ⟨i, us, hi, rfl, hus, hul, rfl, rfl⟩
 by_cases hin : i < n
 ·have hi2 : i < vs.length := by omega
  have hok := ho _ (List.getElem_mem hi2)
  have hpv := hv _ (List.getElem_mem hi2)
  have htk : ∀ k, vRoots (vs.take (i + 1)) k ↔ (k ≠ 0 ∧ k = (vs[i]).r) ∨ vRoots (vs.take i) k := fun k => by
   unfold vRoots
   rw [List.take_add_one, List.getElem?_eq_getElem hi2]
   constructor
   ·rintro ⟨h1, v, hv, rfl⟩
    rcases List.mem_append.1 hv with h | h
    ·exact .inr ⟨h1, v, h, rfl⟩
    ·simp at h; subst h; exact .inl ⟨h1, rfl⟩
   ·rintro (⟨h1, rfl⟩ | ⟨h1, v, hv, rfl⟩)
    ·exact ⟨h1, vs[i], List.mem_append_right _ (by simp), rfl⟩
    ·exact ⟨h1, v, List.mem_append_left _ hv, rfl⟩
  have hmul : 256 * K.n * (n - i) = 256 * K.n * (n - (i + 1)) + 256 * K.n := by
   rw [show n - i = (n - (i + 1)) + 1 by omega, Nat.mul_succ]
  refine t_pure (fun h hs => (hA.up (S := [_, _, _, A]) xpkd).some' (by omega) h hs) ?_
  rintro ⟨b, off, rfl⟩
  by_cases h0 : (vs[i]).r = 0
  ·repeat' first | refine wb fun _ => ?_ | refine wk ?_ | refine wc ?_ ?_ <;> intro h <;> try omega | refine l_qs (by exact q_loadRdA (j := i) (hA.up xpkd) rfl rfl rfl rfl rfl (vsV_get hi2)) rfl ?_ | fail
   rw [h0]
   refine c_call (s_tpages0 T) rfl .nil rfl rfl ?_
   rintro v S ⟨rfl, rfl⟩
   refine l_tell rfl ?_
   repeat' first | refine wk ?_ | refine wc ?_ ?_ <;> intro h <;> try omega | fail
   refine t_loop0 ?_
   repeat' first | refine wk ?_ | refine wc ?_ ?_ <;> intro h <;> try omega | fail
   refine ⟨rfl, n - (i + 1), _, _, by omega, ⟨i + 1, us, by omega, rfl, fun k => ?_, by omega, rfl, rfl⟩, xlss, ?_⟩
   ·rw [hus, htk]
    constructor
    ·exact .inr
    ·rintro (⟨h1, h2⟩ | h)
     ·exact absurd (h2.trans h0) h1
     ·exact h
   ·exact (Ent.pick (Pre := [stC K pg sl (fu + 256 * K.n * (n - i)), amap mb kInt (usM us), trC T K.cc s, A]) xpkd).trans (ent_stless _ _ (by omega) _)
  ·obtain ⟨ps, hp, hps⟩ := hpv h0
   have hr1 := hok.1
   repeat' first | refine wb fun _ => ?_ | refine wk ?_ | refine wc ?_ ?_ <;> intro h <;> try omega | refine l_qs (by exact q_loadRdA (j := i) (hA.up xpkd) rfl rfl rfl rfl rfl (vsV_get hi2)) rfl ?_ | fail
   rw [hmul, ← Nat.add_assoc]
   refine c_call (s_tpages T s K hK pg sl (fu + 256 * K.n * (n - (i + 1))) (vs[i]).r ps hp hps (by omega) hr1) rfl xpkd rfl rfl ?_
   rintro v S ⟨a2, c2, rfl, rfl⟩
   refine l_tell rfl ?_
   refine l_fact (own_some (by omega)) ?_
   rintro ⟨b2, rfl, _⟩
   repeat' first | refine wk ?_ | refine wc ?_ ?_ <;> intro h <;> try omega | fail
   refine t_loop (fun mm env S => ∃ (j : Nat) (us' : List Nat), j ≤ 1 ∧ mm = 1 - j ∧ (∀ k, k ∈ us' ↔ (j = 1 ∧ k = (vs[i]).r) ∨ k ∈ us) ∧ us'.length ≤ us.length + j ∧ env = [(0, .pointer (some ⟨T, 0, none⟩)), (6, .map (some mb)), (18, .slice (some ⟨b, off, none⟩) n c), (19, .int .i64 (n : Int)), (20, .int .i64 (i : Int)), (34, .slice (some ⟨b2, 0, none⟩) 1 c2), (35, .int .i64 ((1 : Nat) : Int)), (36, .int .i64 (j : Int))] ∧ S = [own (some ⟨b2, 0, none⟩) 1 c2 3 1 (natsV [(vs[i]).r]), stC K pg sl (fu + 256 * K.n * (n - (i + 1))), amap mb kInt (usM us'), trC T K.cc s, A]) 1 _ _ ⟨0, us, by omega, by omega, (fun k => by simp), by omega, rfl, rfl⟩ xlss (Ent.pick xpkd) ?_
   rintro mm env S ⟨j, us', hj, rfl, hus', hul', rfl, rfl⟩
   obtain rfl | rfl : j = 0 ∨ j = 1 := by omega
   ·repeat' first | refine wk ?_ | refine wc ?_ ?_ <;> intro h <;> try omega | refine l_qs (by exact q_loadRd (j := 0) (f := 0) (r := [.int .i64 ((vs[i]).r : Int)]) (own_rds (a := some ⟨b2, 0, none⟩) (n := 1) (c := c2) (els := natsV [(vs[i]).r]) xfnd) rfl rfl rfl rfl rfl rfl) rfl ?_ | fail
    refine c_usPut (k := (vs[i]).r) rfl rfl rfl xhol fun us2 h1 h2 => ?_
    refine l_tell rfl ?_
    repeat' first | refine wk ?_ | refine wc ?_ ?_ <;> intro h <;> try omega | fail
    refine ⟨rfl, 0, _, _, by omega, ⟨1, us2, by omega, rfl, fun k => ?_, by omega, rfl, rfl⟩, xlss, Ent.pick xpkd⟩
    rw [h1, hus']
    simp
   ·repeat' first | refine wk ?_ | refine wc ?_ ?_ <;> intro h <;> try omega | fail
    refine ⟨rfl, n - (i + 1), _, _, by omega, ⟨i + 1, us', by omega, rfl, fun k => ?_, by omega, rfl, rfl⟩, xlss, Ent.pick xpkd⟩
    rw [hus', htk, hus]
    constructor
    ·rintro (⟨_, h⟩ | h)
     ·exact .inl ⟨by rw [h]; exact h0, h⟩
     ·exact .inr h
    ·rintro (⟨_, h⟩ | h)
     ·exact .inl ⟨rfl, h⟩
     ·exact .inr h
 ·have e : i = n := by omega
  subst e
  rw [List.take_of_length_le (by omega)] at hus
  repeat' first | refine wk ?_ | refine wc ?_ ?_ <;> intro h <;> try omega | fail
  refine c_range rfl xhol rfl rfl rfl fun it => ?_
  repeat' first | refine wk ?_ | refine wc ?_ ?_ <;> intro h <;> try omega | fail
  refine t_ent (ent_nil 3 1 _) ?_
  refine t_loop (fun mm env S => ∃ (li ys : List Nat) (cur : Option (Value × Value)) (a1 : Option Addr) (c1 : Nat), mm = li.length ∧ (ys ++ li).Perm us ∧ env = [(13, .slice a1 ys.length c1), (45, .pointer (some ⟨it, 0, none⟩))] ∧ S = [arange it mb kInt (usM us) (usM li) cur, own a1 ys.length c1 3 1 (natsV ys), stC K pg sl (fu + 256 * K.n * (i - i)), trC T K.cc s, A]) us.length _ _ ⟨us, [], none, none, 0, rfl, .refl _, rfl, rfl⟩ xlss (Ent.pick xpkd) ?_
  rintro mm env S ⟨li, ys, cur, a1, c1, rfl, hperm, rfl, rfl⟩
  have hpl := hperm.length_eq
  rw [List.length_append] at hpl
  repeat' first | refine wk ?_ | refine wc ?_ ?_ <;> intro h <;> try omega | fail
  refine c_next rfl .here rfl (fun he => ?_) fun p' l' hp hm => ?_
  ·have hz : li = [] := by cases li with | nil => rfl | cons x li => cases he
   subst hz
   rw [List.append_nil] at hperm
   repeat' first | refine wk ?_ | refine wc ?_ ?_ <;> intro h <;> try omega | fail
   rw [natsV_ints]
   refine c_call (s_sortInts a1 ys.length c1 3 (ys.map fun (k : Nat) => (k : Int)) (by omega)) rfl xpkd rfl rfl ?_
   rintro v S rfl
   refine l_tell rfl ?_
   obtain ⟨ys', hy1, hy2⟩ := sorted_nats ys
   rw [hy2]
   repeat' first | refine wk ?_ | refine wc ?_ ?_ <;> intro h <;> try omega | fail
   have e2 : ys.length = ys'.length := hy1.length_eq.symm
   rw [e2]
   refine b_ret [own a1 ys'.length c1 3 1 (natsV ys'), trC T K.cc s, stC K pg sl fu, A] rfl ((Ent.pick (Pre := [stC K pg sl (fu + 256 * K.n * (i - i)), own a1 ys'.length c1 3 1 (natsV ys'), trC T K.cc s, A]) xpkd).trans ((ent_stless _ fu (by omega) _).trans (Ent.pick xpkd))) ⟨a1, c1, ys', fun k => ?_, by omega, rfl, rfl⟩
   rw [hy1.mem_iff, hperm.mem_iff, hus]
  ·have hpm : p' ∈ usM li := hp.mem_iff.2 (List.mem_cons_self ..)
   obtain ⟨x, hx, rfl⟩ := List.mem_map.1 hpm
   obtain ⟨l1, l2, rfl⟩ := List.append_of_mem hx
   have hp2 : l'.Perm (usM (l1 ++ l2)) := (List.perm_cons _).1 (hp.symm.trans (usM_mid l1 l2 x))
   refine l_ent (S' := [arange it mb kInt (usM us) (usM (l1 ++ l2)) (some (.int .i64 (x : Int), .bool true)), own a1 ys.length c1 3 1 (natsV ys), stC K pg sl (fu + 256 * K.n * (i - i)), trC T K.cc s, A]) ((Ent.fold (L := [_]) (arange_perm hp2))) ?_
   repeat' first | refine wk ?_ | refine wc ?_ ?_ <;> intro h <;> try omega | refine l_qs (by exact c_entry rfl xfnd) rfl ?_ | fail
   refine o_buildSlice rfl rfl rfl rfl rfl rfl rfl rfl rfl rfl rfl rfl fun pb => ?_
   repeat' first | refine wk ?_ | refine wc ?_ ?_ <;> intro h <;> try omega | fail
   refine c_append rfl rfl xhol (own_rds (a := some ⟨pb, 0, none⟩) xfnd) rfl rfl rfl rfl rfl (by show (ys.length + 1) * 8 ≤ _; omega) (by omega) rfl fun a3 c3 => ?_
   have e : natsV ys ++ [[.int .i64 (x : Int)]] = natsV (ys ++ [x]) := by simp [natsV]
   have e2 : ys.length + 1 = (ys ++ [x]).length := by simp
   repeat' first | refine wk ?_ | refine wc ?_ ?_ <;> intro h <;> try omega | fail
   rw [e2]
   refine ⟨rfl, (l1 ++ l2).length, _, _, by simp, ⟨l1 ++ l2, ys ++ [x], some (.int .i64 (x : Int), .bool true), a3, c3, rfl, ?_, rfl, rfl⟩, xlss, ?_⟩
   ·refine List.Perm.trans ?_ hperm
    rw [List.append_assoc]
    exact List.Perm.append_left ys (show (x :: (l1 ++ l2)).Perm (l1 ++ x :: l2) from List.perm_middle.symm)
   ·rw [← e]; exact Ent.pick xpkd
def ixC (x d mp o : Nat) : Asn := cellsAt x 376 [.pointer (some ⟨d, 0, none⟩), .string (Nm.name .o), .int .i64 o, .int .i64 0, .map (some mp)]
def lnC (l T x t : Nat) : Asn := cellsAt l 221 [.pointer (some ⟨T, 0, none⟩), .pointer (some ⟨x, 0, none⟩), .pointer (some ⟨t, 0, none⟩)]
theorem s_ixNew (d o : Nat) (ho : o ≤ 1048576) : Spec Tryz.prog 255 [.pointer (some ⟨d, 0, none⟩), .string (Nm.name .o), .int .i64 o] [] (fun v S => ∃ x mp, v = .tuple #[.pointer (some ⟨x, 0, none⟩), .int .i64 0] ∧ S = [ixC x d mp o, amap mp kInt []]) := by
 refine spec_of Tryz.func255 rfl Tryz.results255 Tryz.ntmps255 rfl ?_
 repeat' first | refine wk ?_ | refine wc ?_ ?_ <;> intro h <;> try omega | fail
 refine c_makeMap rfl rfl rfl rfl rfl fun mp => ?_
 repeat' first | refine wb fun _ => ?_ | refine wk ?_ | refine wc ?_ ?_ <;> intro h <;> try omega | fail
 rename_i x
 exact b_ret [ixC x d mp o, amap mp kInt []] rfl (Ent.pick xpkd) ⟨x, mp, rfl, rfl⟩
theorem s_lnNew (T x t : Nat) : Spec Tryz.prog 256 [.pointer (some ⟨T, 0, none⟩), .pointer (some ⟨x, 0, none⟩), .pointer (some ⟨t, 0, none⟩)] [] (fun v S => ∃ l, v = .tuple #[.pointer (some ⟨l, 0, none⟩), .int .i64 0] ∧ S = [lnC l T x t]) := by
 refine spec_of Tryz.func256 rfl Tryz.results256 Tryz.ntmps256 rfl ?_
 repeat' first | refine wb fun _ => ?_ | refine wk ?_ | refine wc ?_ ?_ <;> intro h <;> try omega | fail
 rename_i l
 exact b_ret [lnC l T x t] rfl (Ent.pick xpkd) ⟨l, rfl, rfl⟩
theorem s_trNew (cc s : Nat) : Spec Tryz.prog 264 [.pointer (some ⟨cc, 0, none⟩), .pointer (some ⟨s, 0, none⟩)] [] (fun v S => ∃ T, v = .tuple #[.pointer (some ⟨T, 0, none⟩), .int .i64 0] ∧ S = [trC T cc s]) := by
 refine spec_of Tryz.func264 rfl Tryz.results264 Tryz.ntmps264 rfl ?_
 repeat' first | refine wb fun _ => ?_ | refine wk ?_ | refine wc ?_ ?_ <;> intro h <;> try omega | fail
 rename_i T
 exact b_ret [trC T cc s] rfl (Ent.pick xpkd) ⟨T, rfl, rfl⟩
end Go.Ox
end
