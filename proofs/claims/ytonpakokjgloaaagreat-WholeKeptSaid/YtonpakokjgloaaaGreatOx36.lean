/- WholeKept, part 36. No condition. -/
import Derived.Test.YtonpakokjgloaaaGreatOx35
set_option linter.all false
section
set_option maxRecDepth 100000
set_option maxHeartbeats 1600000
namespace Go.Ox
open Go Go.Proofs
theorem last_drop {α : Type} (l : List α) (x : α) (k j : Nat) (hk : k ≤ l.length) (hj : j + k = l.length) (h : j < ((l ++ [x]).drop k).length) : ((l ++ [x]).drop k)[j] = x := by
 rw [List.getElem_drop]
 rw [List.getElem_append_right (by omega)]
 simp
theorem s_ecommit (E V T s tk t l root bytes most : Nat) (K : SK) (hK : K.ok) (pg : Nat → Option (List Nat)) (sl fu : Nat) (us : List Nat) (vs : List Vn) (ps : List Pc) (pa : Option Addr) (pc cur : Nat) (su nx : Su) (ka : Option Addr) (kn kc : Nat)
  (hp : pg root = some (lfB root ps)) (hps : LfOk ps) (hr1 : 1 ≤ root) (hru : root ∈ us) (hm1 : 1 ≤ most) (hm2 : most ≤ 16)
  (hcur : cur < vs.length) (hn2 : vs.length ≤ 16) (ho : ∀ v ∈ vs, v.ok) (hv : ∀ v ∈ vs, v.r ≠ 0 → v.r ∈ us ∧ ∃ ps, pg v.r = some (lfB v.r ps) ∧ LfOk ps) (hg : su.g < 1099511627776) (hot : su.o ≤ 1048576) (htl : lenO K.t ≤ 16777216) (hu : us.length + 2 ≤ K.n) (hun : us.length ≤ 999999) (hb : ∀ k ∈ us, k + 1 ≤ K.n) (ht : tk ≤ 1000000000) (hcost : 256 * K.n * K.cap ≤ 10000000) (hnc : 256 * K.n * 16 ≤ 10000000) :
  Spec Tryz.prog 14 [.pointer (some ⟨E, 0, none⟩)] [edC E V K.d most root bytes true, vaC V K.cc s T K.d (.pointer (some ⟨t, 0, none⟩)) (.pointer (some ⟨l, 0, none⟩)) pa vs.length pc cur su nx ka kn kc, own pa vs.length pc 182 2 (vsV vs), spC s us tk, stC K pg sl (fu + 30000000 + 256 * K.n + 256 * K.n), tlC t K.d (lenO K.t), trC T K.cc s]
   (fun v S => ∃ no b us' ks pa' pc' ka' kc', 1 ≤ no ∧ no ≤ us.length + 1 ∧ no ∉ us ∧ (∀ k, k ∈ ks ↔ vRoots ((vs.take (cur + 1) ++ [(Vn.mk root (sumN ps))]).drop (cur + 2 - most)) k) ∧ ks.length ≤ cur + 2 - (cur + 2 - most) ∧ (∀ k, k ∈ us' ↔ k ∈ no :: ks) ∧ us'.length ≤ cur + 2 - (cur + 2 - most) + 1 ∧ v = .int .i64 0 ∧ S = [edC E V K.d most root (sumN ps) false, vaC V K.cc s T K.d (.pointer (some ⟨t, 0, none⟩)) (.pointer (some ⟨l, 0, none⟩)) pa' (cur + 2 - (cur + 2 - most)) pc' (cur + 2 - (cur + 2 - most) - 1) ⟨su.g + 1, no, cur + 2 - (cur + 2 - most) - 1, lenO K.t, su.o⟩ su0 ka' ks.length kc', own pa' (cur + 2 - (cur + 2 - most)) pc' 182 2 (vsV ((vs.take (cur + 1) ++ [(Vn.mk root (sumN ps))]).drop (cur + 2 - most))), own ka' ks.length kc' 3 1 (natsV ks), spC s us' 0, stC K (rpg (updP pg no (some b)) (no :: ks)) (256 * (no + 1)) fu, tlC t K.d (lenO K.t), trC T K.cc s]) := by
 have hrb := hb root hru
 have hps1 : 1 ≤ sumN ps := by
  match ps, hps with
  | p :: r, h => have := h.2.2.1 p (List.mem_cons_self ..); simp only [sumN, List.map_cons, List.sum_cons]; have := this.2.2.1; omega
  | [], h => exact absurd h.1 (by decide)
 have hk6 : K.n ≤ 1048576 := by have := hK; unfold SK.ok at this; omega
 have hvo : (Vn.mk root (sumN ps)).ok := ⟨by show root < _; omega, hps.2.2.2, by show root = 0 ↔ sumN ps = 0; omega⟩
 have hcm := s_vcommit V T s tk t l root most K hK pg sl fu us vs ps pa pc cur su nx ka kn kc hp hps hr1 hru hm1 hm2 hcur hn2 ho hv hg hot htl hu hun hb ht hcost hnc
 have hlen : ((vs.take (cur + 1) ++ [(Vn.mk root (sumN ps))]).drop (cur + 2 - most)).length = cur + 2 - (cur + 2 - most) := by simp; omega
 have hmem : ∀ v ∈ (vs.take (cur + 1) ++ [(Vn.mk root (sumN ps))]).drop (cur + 2 - most), v.ok := fun v hvm => by
  rcases List.mem_append.1 (List.mem_of_mem_drop hvm) with h | h
  ·exact ho v (List.mem_of_mem_take h)
  ·rw [List.mem_singleton.1 h]; exact hvo
 have hlast := fun h => last_drop (vs.take (cur + 1)) (Vn.mk root (sumN ps)) (cur + 2 - most) (cur + 2 - (cur + 2 - most) - 1) (by simp; omega) (by simp; omega) h
 generalize hvs' : (vs.take (cur + 1) ++ [(Vn.mk root (sumN ps))]).drop (cur + 2 - most) = vs' at *
 generalize hn' : cur + 2 - (cur + 2 - most) = n' at *
 have hn'1 : 1 ≤ n' := by omega
 have hn'2 : n' ≤ 16 := by omega
 subst hlen
 have hl := hlast (by omega)
 refine spec_of Tryz.func14 rfl Tryz.results14 Tryz.ntmps14 rfl ?_
 repeat' first | refine wk ?_ | refine wc ?_ ?_ <;> intro h <;> try omega | fail
 refine c_call (s_eopen E V K.d most root bytes true) rfl xpkd rfl rfl ?_
 rintro v S ⟨rfl, rfl⟩
 refine l_tell rfl ?_
 repeat' first | refine wk ?_ | refine wc ?_ ?_ <;> intro h <;> try omega | fail
 refine t_draw (id := 4) (.eval 0 true (.eval 1 true (.eval 2 true (.eval 3 false (.eval 4 true (.eval 5 true (.eval 6 true (.eval 7 false (.eval 8 true (.eval 9 true (.eval 10 true (.eval 11 false (.eff 12 [] (.eff 13 [] .fin .stop) .stop))))))))))))) rfl (by kernel_rfl) ?_
 repeat' first | refine wk ?_ | refine wc ?_ ?_ <;> intro h <;> try omega | fail
 refine c_call hcm rfl xpkd rfl rfl ?_
 rintro v S ⟨no, b, us', ks, pa', pc', ka', kc', n1, n2, n3, g1, g2, g3, g4, rfl, rfl⟩
 refine l_tell rfl ?_
 repeat' first | refine wk ?_ | refine wc ?_ ?_ <;> intro h <;> try omega | fail
 refine c_call (s_estand E V K.d most root bytes K.cc s T K.d true (.pointer (some ⟨t, 0, none⟩)) (.pointer (some ⟨l, 0, none⟩)) pa' pc' (vs'.length - 1) vs' ⟨su.g + 1, no, vs'.length - 1, lenO K.t, su.o⟩ su0 ka' ks.length kc' hn'2 (by omega) hmem) rfl xpkd rfl rfl ?_
 rintro v S ⟨rfl, rfl⟩
 refine l_tell rfl ?_
 repeat' first | refine wk ?_ | refine wc ?_ ?_ <;> intro h <;> try omega | fail
 rw [hl]
 exact b_ret [edC E V K.d most root (sumN ps) false, vaC V K.cc s T K.d (.pointer (some ⟨t, 0, none⟩)) (.pointer (some ⟨l, 0, none⟩)) pa' vs'.length pc' (vs'.length - 1) ⟨su.g + 1, no, vs'.length - 1, lenO K.t, su.o⟩ su0 ka' ks.length kc', own pa' vs'.length pc' 182 2 (vsV vs'), own ka' ks.length kc' 3 1 (natsV ks), spC s us' 0, stC K (rpg (updP pg no (some b)) (no :: ks)) (256 * (no + 1)) fu, tlC t K.d (lenO K.t), trC T K.cc s] rfl (Ent.pick xpkd) ⟨no, b, us', ks, pa', pc', ka', kc', n1, n2, n3, g1, g2, g3, g4, rfl, rfl⟩
end Go.Ox
end
section
set_option maxRecDepth 100000
set_option maxHeartbeats 800000
namespace Go.Ox
open Go Go.Proofs
theorem okR_le {B C : Nat} {l : List (Int × Int)} (h : okR B l) (hc : B ≤ C) : okR C l := fun p hp => by have := h p hp; exact ⟨this.1, this.2.1, by omega⟩
theorem s_resident (K : SK) (pg : Nat → Option (List Nat)) (sl fu : Nat) :
  Spec Tryz.prog 56 [.pointer (some ⟨K.cc, 0, none⟩)] [stC K pg sl fu] (fun v S => ∃ z : Nat, v = .int .i64 (z : Int) ∧ S = [stC K pg sl fu]) := by
 refine spec_of Tryz.func56 rfl Tryz.results56 Tryz.ntmps56 rfl ?_
 refine t_open st_open .here fun r hr => ?_
 refine t_tell rfl ?_
 repeat' first | refine wk ?_ | refine wc ?_ ?_ <;> intro h <;> try omega | refine l_qs (by exact c_lenMap rfl xfnd rfl rfl) rfl ?_ | fail
 refine b_ret [stC K pg sl fu] rfl ?_ ⟨_, rfl, rfl⟩
 exact (Ent.pick (Pre := stL K fu r) xpkd).trans (Ent.fold (st_close r hr))
theorem s_reads (K : SK) (pg : Nat → Option (List Nat)) (sl fu : Nat) :
  Spec Tryz.prog 57 [.pointer (some ⟨K.cc, 0, none⟩)] [stC K pg sl fu] (fun v S => ∃ z : Int, v = .int .i64 z ∧ S = [stC K pg sl fu]) := by
 refine spec_of Tryz.func57 rfl Tryz.results57 Tryz.ntmps57 rfl ?_
 refine t_open st_open .here fun r hr => ?_
 refine t_tell rfl ?_
 repeat' first | refine wk ?_ | refine wc ?_ ?_ <;> intro h <;> try omega | fail
 refine b_ret [stC K pg sl fu] rfl ?_ ⟨_, rfl, rfl⟩
 exact (Ent.pick (Pre := stL K fu r) xpkd).trans (Ent.fold (st_close r hr))
theorem s_estat (E V most root bytes s T tk t : Nat) (dt : Bool) (K : SK) (pg : Nat → Option (List Nat)) (sl fu B : Nat) (us : List Nat) (lv : Value) (pa : Option Addr) (pn pc cur : Nat) (su nx : Su) (ka : Option Addr) (kn kc : Nat) (hu : us.length ≤ 1000000) (hb : ∀ k ∈ us, k + 1 ≤ B) (hB0 : 1 ≤ B) (hB : B ≤ 1048576) :
  Spec Tryz.prog 17 [.pointer (some ⟨E, 0, none⟩)] [edC E V K.d most root bytes dt, vaC V K.cc s T K.d (.pointer (some ⟨t, 0, none⟩)) lv pa pn pc cur su nx ka kn kc, stC K pg sl fu, spC s us tk, tlC t K.d (lenO K.t)]
   (fun v S => ∃ (z1 z3 m : Nat) (z2 : Int), m ≤ B ∧ v = .agg #[.int .i64 (z1 : Int), .int .i64 z2, .int .i64 (z3 : Int), .int .i64 (m : Int), .int .i64 (lenO K.t : Nat), .int .i64 (su.o : Int)] ∧ S = [edC E V K.d most root bytes dt, vaC V K.cc s T K.d (.pointer (some ⟨t, 0, none⟩)) lv pa pn pc cur su nx ka kn kc, stC K pg sl fu, spC s us tk, tlC t K.d (lenO K.t)]) := by
 refine spec_of_d Tryz.func17 rfl Tryz.results17 Tryz.ntmps17 rfl ?_
 repeat' first | refine wk ?_ | refine wc ?_ ?_ <;> intro h <;> try omega | fail
 refine o_alloc rfl rfl fun rb => ?_
 repeat' first | refine wk ?_ | refine wc ?_ ?_ <;> intro h <;> try omega | fail
 refine c_call (s_eopen E V K.d most root bytes dt) rfl xpkd rfl rfl ?_
 rintro v S ⟨rfl, rfl⟩
 refine l_tell rfl ?_
 repeat' first | refine wk ?_ | refine wc ?_ ?_ <;> intro h <;> try omega | fail
 refine t_draw (id := 3) (.eval 0 true (.eval 1 true (.eval 2 true (.eval 3 false (.eval 6 true (.eval 7 true (.eval 8 true (.eval 9 false (.eval 12 true (.eval 13 true (.eval 14 true (.eval 15 false (.eval 19 true (.eval 20 true (.eval 21 true (.eval 22 false (.eval 25 true (.eval 26 true (.eval 27 true (.eval 28 false (.eval 31 true (.eval 32 true (.eval 33 true (.eval 34 false (.eff 4 [9, 15, 22, 28, 34] (.eff 5 [3, 9, 15, 22, 28, 34] (.eff 10 [3, 15, 22, 28, 34] (.eff 11 [3, 9, 15, 22, 28, 34] (.eff 16 [3, 9, 22, 28, 34] (.eff 17 [3, 9, 15, 22, 28, 34] (.eff 18 [3, 9, 15, 22, 28, 34] (.eff 23 [3, 9, 15, 28, 34] (.eff 24 [3, 9, 15, 22, 28, 34] (.eff 29 [3, 9, 15, 22, 34] (.eff 30 [3, 9, 15, 22, 28, 34] (.eff 35 [3, 9, 15, 22, 28] (.eval 36 true (.eval 37 true (.eff 38 [] .fin .stop))) .stop) .stop) .stop) .stop) .stop) .stop) .stop) .stop) .stop) .stop) .stop) .stop))))))))))))))))))))))))) rfl (by kernel_rfl) ?_
 repeat' first | refine wk ?_ | refine wc ?_ ?_ <;> intro h <;> try omega | fail
 refine c_call (s_vcache V K.cc s T K.d _ lv pa pn pc cur su nx ka kn kc) rfl xpkd rfl rfl ?_
 rintro v S ⟨rfl, rfl⟩
 refine l_tell rfl ?_
 repeat' first | refine wk ?_ | refine wc ?_ ?_ <;> intro h <;> try omega | fail
 refine c_call (s_resident K pg sl fu) rfl xpkd rfl rfl ?_
 rintro v S ⟨z1, rfl, rfl⟩
 refine l_tell rfl ?_
 repeat' first | refine wk ?_ | refine wc ?_ ?_ <;> intro h <;> try omega | fail
 refine c_call (s_vcache V K.cc s T K.d _ lv pa pn pc cur su nx ka kn kc) rfl xpkd rfl rfl ?_
 rintro v S ⟨rfl, rfl⟩
 refine l_tell rfl ?_
 repeat' first | refine wk ?_ | refine wc ?_ ?_ <;> intro h <;> try omega | fail
 refine c_call (s_reads K pg sl fu) rfl xpkd rfl rfl ?_
 rintro v S ⟨z2, rfl, rfl⟩
 refine l_tell rfl ?_
 repeat' first | refine wk ?_ | refine wc ?_ ?_ <;> intro h <;> try omega | fail
 refine c_call (s_vspace V K.cc s T K.d _ lv pa pn pc cur su nx ka kn kc) rfl xpkd rfl rfl ?_
 rintro v S ⟨rfl, rfl⟩
 refine l_tell rfl ?_
 repeat' first | refine wk ?_ | refine wc ?_ ?_ <;> intro h <;> try omega | fail
 refine c_call (s_spUsed s tk B us hu hb hB) rfl xpkd rfl rfl ?_
 rintro v S ⟨a, c, out, q1, q2, rfl, rfl⟩
 refine l_tell rfl ?_
 repeat' first | refine wk ?_ | refine wc ?_ ?_ <;> intro h <;> try omega | fail
 refine c_call (s_total (own a out.length c 187 2 (rgV out)) a out.length c out (Rds.own 0 rfl) rfl (by omega) (okR_le q1 hB)) rfl xpkd rfl rfl ?_
 rintro v S ⟨z3, rfl, rfl⟩
 refine l_tell rfl ?_
 repeat' first | refine wk ?_ | refine wc ?_ ?_ <;> intro h <;> try omega | fail
 refine c_call (s_vspace V K.cc s T K.d _ lv pa pn pc cur su nx ka kn kc) rfl xpkd rfl rfl ?_
 rintro v S ⟨rfl, rfl⟩
 refine l_tell rfl ?_
 repeat' first | refine wk ?_ | refine wc ?_ ?_ <;> intro h <;> try omega | fail
 refine c_call (s_spTop s tk B us hb hB0 (by omega)) rfl xpkd rfl rfl ?_
 rintro v S ⟨mm, hm, rfl, rfl⟩
 refine l_tell rfl ?_
 repeat' first | refine wk ?_ | refine wc ?_ ?_ <;> intro h <;> try omega | fail
 refine c_call (s_vtail V K.cc s T K.d _ lv pa pn pc cur su nx ka kn kc) rfl xpkd rfl rfl ?_
 rintro v S ⟨rfl, rfl⟩
 refine l_tell rfl ?_
 repeat' first | refine wk ?_ | refine wc ?_ ?_ <;> intro h <;> try omega | fail
 refine c_call (s_tlLen t K.d (lenO K.t)) rfl xpkd rfl rfl ?_
 rintro v S ⟨rfl, rfl⟩
 refine l_tell rfl ?_
 repeat' first | refine wk ?_ | refine wc ?_ ?_ <;> intro h <;> try omega | fail
 refine c_call (s_vsuper V K.cc s T K.d _ lv pa pn pc cur su nx ka kn kc) rfl xpkd rfl rfl ?_
 rintro v S ⟨rfl, rfl⟩
 refine l_tell rfl ?_
 repeat' first | refine wk ?_ | refine wc ?_ ?_ <;> intro h <;> try omega | fail
 exact bd_ret (out_nil [edC E V K.d most root bytes dt, vaC V K.cc s T K.d (.pointer (some ⟨t, 0, none⟩)) lv pa pn pc cur su nx ka kn kc, stC K pg sl fu, spC s us tk, tlC t K.d (lenO K.t)] (.cons (.cell fun N D => c_loadA (b := rb) rfl xfnd rfl rfl rfl) .nil) (Ent.pick xpkd) ⟨z1, z3, mm, z2, hm, rfl, rfl⟩)
end Go.Ox
end
section
set_option maxRecDepth 100000
set_option maxHeartbeats 1600000
namespace Go.Ox
open Go Go.Proofs
theorem s_vover (d cap : Nat) (h1 : 1 ≤ cap) (h2 : cap ≤ 4096) :
  Spec Tryz.prog 188 [.pointer (some ⟨d, 0, none⟩), .int .i64 cap] [] (fun v S => ∃ cc L mp s T, v = .tuple #[.agg #[.pointer (some ⟨cc, 0, none⟩), .pointer (some ⟨s, 0, none⟩), .pointer (some ⟨T, 0, none⟩)], .int .i64 0] ∧ S = [caC cc L d cap mp 0, lruC L cap [], amap mp kInt [], pgsC [], spC s [] 0, trC T cc s]) := by
 refine spec_of_d Tryz.func188 rfl Tryz.results188 Tryz.ntmps188 rfl ?_
 repeat' first | refine wk ?_ | refine wc ?_ ?_ <;> intro h <;> try omega | fail
 refine o_alloc rfl rfl fun rb => ?_
 repeat' first | refine wk ?_ | refine wc ?_ ?_ <;> intro h <;> try omega | fail
 refine c_call (s_cnew d cap h1 h2) rfl xpkd rfl rfl ?_
 rintro v S ⟨cc, L, mp, rfl, rfl⟩
 refine l_tell rfl ?_
 repeat' first | refine wk ?_ | refine wc ?_ ?_ <;> intro h <;> try omega | fail
 refine c_call s_spNew rfl xpkd rfl rfl ?_
 rintro v S ⟨s, rfl, rfl⟩
 refine l_tell rfl ?_
 repeat' first | refine wk ?_ | refine wc ?_ ?_ <;> intro h <;> try omega | fail
 refine c_call (s_trNew cc s) rfl xpkd rfl rfl ?_
 rintro v S ⟨T, rfl, rfl⟩
 refine l_tell rfl ?_
 repeat' first | refine wk ?_ | refine wc ?_ ?_ <;> intro h <;> try omega | fail
 exact bd_ret (out_nil [caC cc L d cap mp 0, lruC L cap [], amap mp kInt [], pgsC [], spC s [] 0, trC T cc s] (.cons (.cell fun N D => c_loadA (b := rb) rfl xfnd rfl rfl rfl) (.cons (.tmp rfl) .nil)) (Ent.pick xpkd) ⟨cc, L, mp, s, T, rfl, rfl⟩)
theorem s_stsize (K : SK) (pg : Nat → Option (List Nat)) (sl fu : Nat) :
  Spec Tryz.prog 69 [.pointer (some ⟨K.d, 0, none⟩), .string (Nm.name .o)] [stC K pg sl fu] (fun v S => v = .int .i64 (szI K.o) ∧ S = [stC K pg sl fu]) := by
 refine Spec.ex st_open fun r hst => ?_
 refine (spec_frame (s_size4 K.d K.room fu (K.F r.s) .o) (stF K r)).conseq (st_in K fu r []) ?_
 rintro v S ⟨S0, ⟨rfl, rfl⟩, rfl⟩
 exact ⟨_, st_out r hst [], rfl, rfl⟩
theorem s_sttlOpen (K : SK) (pg : Nat → Option (List Nat)) (sl fu : Nat) (hK : K.t = none) :
  Spec Tryz.prog 267 [.pointer (some ⟨K.d, 0, none⟩), .int .i64 0] [stC K pg sl fu] (fun v S => ∃ t, v = .tuple #[.pointer (some ⟨t, 0, none⟩), .int .i64 0] ∧ S = [stC K pg sl fu, tlC t K.d 0]) := by
 refine Spec.ex st_open fun r hst => ?_
 refine (spec_frame (s_tlOpen K.d K.room fu (K.F r.s) hK) (stF K r)).conseq (st_in K fu r []) ?_
 rintro v S ⟨S0, ⟨t, rfl, rfl⟩, rfl⟩
 refine ⟨_, ?_, t, rfl, rfl⟩
 exact (Ent.perm (List.Perm.swap _ _ _)).trans (st_out r hst [tlC t K.d 0])
theorem s_vlay0 (V T s : Nat) (K : SK) (hK : K.ok) (hKt : K.t = none) (hKo : K.o = none) (pg : Nat → Option (List Nat)) (sl fu : Nat) (hn : 2 ≤ K.n) (hcost : 256 * K.n * K.cap ≤ 10000000) :
  Spec Tryz.prog 191 [.pointer (some ⟨V, 0, none⟩)] [vaC V K.cc s T K.d (.pointer none) (.pointer none) none 0 0 0 su0 su0 none 0 0, spC s [] 0, stC K pg sl (fu + 64 + 256 * K.n * 1 + 10000000 + 256 * K.n), trC T K.cc s]
   (fun v S => ∃ t l x mp no b us' ks pa' pc' ka' kc', 1 ≤ no ∧ no ≤ 1 ∧ (∀ k, k ∈ ks ↔ vRoots [Vn.mk 0 0] k) ∧ ks.length ≤ 1 ∧ (∀ k, k ∈ us' ↔ k ∈ no :: ks) ∧ us'.length ≤ 2 ∧ v = .int .i64 0 ∧ S = [vaC V K.cc s T K.d (.pointer (some ⟨t, 0, none⟩)) (.pointer (some ⟨l, 0, none⟩)) pa' 1 pc' 0 ⟨1, no, 0, 0, 0⟩ su0 ka' ks.length kc', own pa' 1 pc' 182 2 (vsV [Vn.mk 0 0]), own ka' ks.length kc' 3 1 (natsV ks), spC s us' 0, stC K (rpg (updP pg no (some b)) (no :: ks)) (256 * (no + 1)) fu, tlC t K.d 0, trC T K.cc s, lnC l T x t, ixC x K.d mp 0, amap mp kInt []]) := by
 refine spec_of Tryz.func191 rfl Tryz.results191 Tryz.ntmps191 rfl ?_
 repeat' first | refine wk ?_ | refine wc ?_ ?_ <;> intro h <;> try omega | fail
 have hsz := s_stsize K pg sl (fu + 64 + 256 * K.n * 1 + 10000000 + 256 * K.n)
 rw [hKo, show szI none = -1 from rfl] at hsz
 refine c_call hsz rfl xpkd rfl rfl ?_
 rintro v S ⟨rfl, rfl⟩
 refine l_tell rfl ?_
 repeat' first | refine wk ?_ | refine wc ?_ ?_ <;> intro h <;> try omega | fail
 refine c_call (s_sttlOpen K pg sl (fu + 64 + 256 * K.n * 1 + 10000000 + 256 * K.n) hKt) rfl xpkd rfl rfl ?_
 rintro v S ⟨t, rfl, rfl⟩
 refine l_tell rfl ?_
 repeat' first | refine wk ?_ | refine wc ?_ ?_ <;> intro h <;> try omega | fail
 refine c_call (s_tbuild0 T K.cc s 0 []) rfl xpkd rfl rfl ?_
 rintro v S ⟨rfl, rfl⟩
 refine l_tell rfl ?_
 repeat' first | refine wk ?_ | refine wc ?_ ?_ <;> intro h <;> try omega | fail
 rw [show (max (0 : Int) (-1)) = ((0 : Nat) : Int) from by decide]
 refine o_buildSlice rfl rfl rfl rfl rfl rfl rfl rfl rfl rfl rfl rfl fun pb => ?_
 repeat' first | refine wk ?_ | refine wc ?_ ?_ <;> intro h <;> try omega | fail
 have hsu := s_vsure0 (own (some ⟨pb, 0, none⟩) 1 1 182 2 (vsV [Vn.mk 0 0])) V T s 0 t K hK pg sl fu [] [Vn.mk 0 0] none 0 0 0 ⟨0, 0, 0, 0, 0⟩ su0 none 0 0 (some ⟨pb, 0, none⟩) 1 1 0 (Rds.own 0 rfl) rfl (by decide) (by decide) (fun v hv => by rw [List.mem_singleton.1 hv]; exact ⟨by decide, by decide, by decide⟩) (fun v hv h => by rw [List.mem_singleton.1 hv] at h; exact absurd rfl h) (by decide) (by decide) (by decide) (by rw [hKt]; decide) hn (by decide) (fun k hk => by cases hk) (by decide) hcost
 rw [hKt, show lenO none = 0 from rfl] at hsu
 refine c_call hsu rfl xpkd rfl rfl ?_
 rintro v S ⟨l, x, mp, no, b, us', ks, pa', pc', ka', kc', n1, n2, n3, g1, g2, g3, g4, rfl, rfl⟩
 refine l_tell rfl ?_
 repeat' first | refine wk ?_ | refine wc ?_ ?_ <;> intro h <;> try omega | fail
 exact b_ret [vaC V K.cc s T K.d (.pointer (some ⟨t, 0, none⟩)) (.pointer (some ⟨l, 0, none⟩)) pa' 1 pc' 0 ⟨1, no, 0, 0, 0⟩ su0 ka' ks.length kc', own pa' 1 pc' 182 2 (vsV [Vn.mk 0 0]), own ka' ks.length kc' 3 1 (natsV ks), spC s us' 0, stC K (rpg (updP pg no (some b)) (no :: ks)) (256 * (no + 1)) fu, tlC t K.d 0, trC T K.cc s, lnC l T x t, ixC x K.d mp 0, amap mp kInt []] rfl (Ent.pick xpkd) ⟨t, l, x, mp, no, b, us', ks, pa', pc', ka', kc', n1, n2, g1, g2, g3, g4, rfl, rfl⟩
end Go.Ox
end
section
set_option maxRecDepth 100000
set_option maxHeartbeats 1600000
namespace Go.Ox
open Go Go.Proofs
theorem q_maxE {P : Program} {env : KEnv} {x y : Operand} {k : IntKind} {p q r : Int} {t : TypeId} {tys : Array TypeId} (h : max p q = r) (hx : ev env x = some (.int k p)) (hy : ev env y = some (.int k q)) : QP P env (.call ⟨.builtin .max, #[x, y], tys⟩) t (.int k r) := h ▸ q_max hx hy
theorem s_vlay1 (V T s : Nat) (K : SK) (hK : K.ok) (hKt : K.t = none) (n : Nat) (hKo : lenO K.o = n) (h1 : 1 ≤ n) (h2 : n ≤ 1048576) (pg : Nat → Option (List Nat)) (sl fu : Nat) (hn : 3 ≤ K.n) (hcost : 256 * K.n * K.cap ≤ 10000000) :
  Spec Tryz.prog 191 [.pointer (some ⟨V, 0, none⟩)] [vaC V K.cc s T K.d (.pointer none) (.pointer none) none 0 0 0 su0 su0 none 0 0, spC s [] 0, stC K pg sl (fu + 64 + 256 * K.n * 1 + 10000000 + 256 * K.n + 256 * K.n), trC T K.cc s]
   (fun v S => ∃ t l x mp no no1 b us' ks pa' pc' ka' kc', 1 ≤ no1 ∧ no1 ≤ 1 ∧ 1 ≤ no ∧ no ≤ 2 ∧ no ≠ no1 ∧ (∀ k, k ∈ ks ↔ vRoots [Vn.mk no1 n] k) ∧ ks.length ≤ 1 ∧ (∀ k, k ∈ us' ↔ k ∈ no :: ks) ∧ us'.length ≤ 2 ∧ v = .int .i64 0 ∧ S = [vaC V K.cc s T K.d (.pointer (some ⟨t, 0, none⟩)) (.pointer (some ⟨l, 0, none⟩)) pa' 1 pc' 0 ⟨1, no, 0, 0, n⟩ su0 ka' ks.length kc', own pa' 1 pc' 182 2 (vsV [Vn.mk no1 n]), own ka' ks.length kc' 3 1 (natsV ks), spC s us' 0, stC K (rpg (updP (updP pg no1 (some (lfB no1 [Pc.mk 0 0 n (-1)]))) no (some b)) (no :: ks)) (256 * (no + 1)) fu, tlC t K.d 0, trC T K.cc s, lnC l T x t, ixC x K.d mp n, amap mp kInt []]) := by
 have hpo : (Pc.mk 0 0 n (-1)).ok := ⟨.inl rfl, by show 0 + n ≤ _; omega, h1, h2, by show (-1 : Int) ≤ -1; omega, by show (-1 : Int) ≤ n; omega, .inr rfl⟩
 have hlf : LfOk [Pc.mk 0 0 n (-1)] := ⟨by simp, by simp, fun p hp => by rw [List.mem_singleton.1 hp]; exact hpo, by rw [sumN_one]; exact h2⟩
 refine spec_of Tryz.func191 rfl Tryz.results191 Tryz.ntmps191 rfl ?_
 refine t_tell rfl ?_
 repeat' first | refine wk ?_ | refine wc ?_ ?_ <;> intro h <;> try omega | fail
 refine c_call (s_stsize K pg sl (fu + 64 + 256 * K.n * 1 + 10000000 + 256 * K.n + 256 * K.n)) rfl xpkd rfl rfl ?_
 rintro v S ⟨rfl, rfl⟩
 refine l_tell rfl ?_
 have hmx := szI_max K.o
 rw [hKo] at hmx
 repeat' first | refine l_qp (by exact q_maxE hmx rfl rfl) rfl ?_ | refine d_qp rfl (by exact q_maxE hmx rfl rfl) rfl ?_ | refine d_gqp rfl rfl (by exact q_maxE hmx rfl rfl) rfl ?_ | refine wk ?_ | refine wc ?_ ?_ <;> intro h <;> try omega | fail
 refine c_call (s_sttlOpen K pg sl (fu + 64 + 256 * K.n * 1 + 10000000 + 256 * K.n + 256 * K.n) hKt) rfl xpkd rfl rfl ?_
 rintro v S ⟨t, rfl, rfl⟩
 refine l_tell rfl ?_
 repeat' first | refine wk ?_ | refine wc ?_ ?_ <;> intro h <;> try omega | fail
 refine o_buildSlice rfl rfl rfl rfl rfl rfl rfl rfl rfl rfl rfl rfl fun pb => ?_
 repeat' first | refine wk ?_ | refine wc ?_ ?_ <;> intro h <;> try omega | fail
 refine l_ent (ent_nil 88 4 _) ?_
 refine c_append rfl rfl xhol (own_rds (a := some ⟨pb, 0, none⟩) xfnd) rfl rfl rfl rfl rfl (by show (0 + 1) * 32 ≤ _; omega) (by omega) rfl fun a3 c3 => ?_
 rw [Nat.zero_add, List.nil_append]
 repeat' first | refine wk ?_ | refine wc ?_ ?_ <;> intro h <;> try omega | fail
 refine c_call (s_tbuild (own a3 1 c3 88 4 (pcs [Pc.mk 0 0 n (-1)])) T s 0 [] K hK pg sl (fu + 64 + 256 * K.n * 1 + 10000000 + 256 * K.n) a3 c3 (Pc.mk 0 0 n (-1)) (Rds.own 0 rfl) hlf (by show 0 + 2 ≤ _; omega) (by decide)) rfl xpkd rfl rfl ?_
 rintro v S ⟨no1, m1, m2, m3, rfl, rfl⟩
 refine l_tell rfl ?_
 repeat' first | refine wk ?_ | refine wc ?_ ?_ <;> intro h <;> try omega | fail
 refine o_buildSlice rfl rfl rfl rfl rfl rfl rfl rfl rfl rfl rfl rfl fun qb => ?_
 repeat' first | refine wk ?_ | refine wc ?_ ?_ <;> intro h <;> try omega | fail
 have m2' : no1 ≤ 1 := m2
 have hsu := s_vsure0 (own (some ⟨qb, 0, none⟩) 1 1 182 2 (vsV [Vn.mk no1 n])) V T s 1 t K hK (updP pg no1 (some (lfB no1 [Pc.mk 0 0 n (-1)]))) sl fu [no1] [Vn.mk no1 n] none 0 0 0 ⟨0, 0, 0, 0, n⟩ su0 none 0 0 (some ⟨qb, 0, none⟩) 1 1 0 (Rds.own 0 rfl) rfl (by decide) (by decide) (fun v hv => by rw [List.mem_singleton.1 hv]; exact ⟨by show no1 < _; omega, h2, by show no1 = 0 ↔ n = 0; omega⟩) (fun v hv h => by rw [List.mem_singleton.1 hv]; exact ⟨List.mem_singleton_self _, _, by simp [updP], hlf⟩) (by decide) (by show 0 < _; decide) h2 (by rw [hKt]; decide) hn (by show 1 ≤ _; decide) (fun k hk => by rw [List.mem_singleton.1 hk]; omega) (by decide) hcost
 rw [hKt, show lenO none = 0 from rfl] at hsu
 refine c_call hsu rfl xpkd rfl rfl ?_
 rintro v S ⟨l, x, mp, no, b, us', ks, pa', pc', ka', kc', n1, n2, n3, g1, g2, g3, g4, rfl, rfl⟩
 refine l_tell rfl ?_
 repeat' first | refine wk ?_ | refine wc ?_ ?_ <;> intro h <;> try omega | fail
 exact b_ret [vaC V K.cc s T K.d (.pointer (some ⟨t, 0, none⟩)) (.pointer (some ⟨l, 0, none⟩)) pa' 1 pc' 0 ⟨1, no, 0, 0, n⟩ su0 ka' ks.length kc', own pa' 1 pc' 182 2 (vsV [Vn.mk no1 n]), own ka' ks.length kc' 3 1 (natsV ks), spC s us' 0, stC K (rpg (updP (updP pg no1 (some (lfB no1 [Pc.mk 0 0 n (-1)]))) no (some b)) (no :: ks)) (256 * (no + 1)) fu, tlC t K.d 0, trC T K.cc s, lnC l T x t, ixC x K.d mp n, amap mp kInt []] rfl (Ent.pick xpkd) ⟨t, l, x, mp, no, no1, b, us', ks, pa', pc', ka', kc', m1, m2, n1, n2, fun e => n3 (by rw [e]; exact List.mem_singleton_self _), g1, g2, g3, g4, rfl, rfl⟩
end Go.Ox
end
section
set_option maxRecDepth 100000
set_option maxHeartbeats 1600000
namespace Go.Ox
open Go Go.Proofs
theorem s_vopen (d room cap n fu : Nat) (o : Option (List Nat)) (h1 : 4 ≤ cap) (h2 : cap ≤ 4096) (R : Nat → Nat → Nat → Nat → List Asn → Prop)
  (hlay : ∀ V cc s T, Spec Tryz.prog 191 [.pointer (some ⟨V, 0, none⟩)] [vaC V cc s T d (.pointer none) (.pointer none) none 0 0 0 su0 su0 none 0 0, spC s [] 0, stC ⟨cc, d, room, cap, n, o, none, none⟩ (fun _ => none) 0 fu, trC T cc s] (fun v S => v = .int .i64 0 ∧ R V cc s T S)) :
  Spec Tryz.prog 124 [.pointer (some ⟨d, 0, none⟩), .int .i64 cap] [dskC d room ⟨o, none, none, none⟩ fu] (fun v S => ∃ V cc s T, v = .tuple #[.pointer (some ⟨V, 0, none⟩), .int .i64 0] ∧ R V cc s T S) := by
 refine spec_of Tryz.func124 rfl Tryz.results124 Tryz.ntmps124 rfl ?_
 repeat' first | refine wk ?_ | refine wc ?_ ?_ <;> intro h <;> try omega | fail
 refine c_call (s_down4 d room fu ⟨o, none, none, none⟩) rfl xpkd rfl rfl ?_
 rintro v S ⟨rfl, rfl⟩
 refine l_tell rfl ?_
 repeat' first | refine wk ?_ | refine wc ?_ ?_ <;> intro h <;> try omega | fail
 refine c_call (s_vover d cap (by omega) h2) rfl xpkd rfl rfl ?_
 rintro v S ⟨cc, L, mp, s, T, rfl, rfl⟩
 refine l_tell rfl ?_
 repeat' first | refine wk ?_ | refine wc ?_ ?_ <;> intro h <;> try omega | fail
 refine o_alloc rfl rfl fun b6 => ?_
 repeat' first | refine wk ?_ | refine wc ?_ ?_ <;> intro h <;> try omega | fail
 refine o_box rfl rfl rfl fun V => ?_
 repeat' first | refine wk ?_ | refine wc ?_ ?_ <;> intro h <;> try omega | fail
 refine c_call (s_size4 d room fu ⟨o, none, none, none⟩ .s) rfl xpkd rfl rfl ?_
 rintro v S ⟨rfl, rfl⟩
 refine l_tell rfl ?_
 repeat' first | refine wk ?_ | refine wc ?_ ?_ <;> intro h <;> try omega | fail
 refine c_call (s_read4_no d room fu ⟨o, none, none, none⟩ .s _ _ rfl) rfl xpkd rfl rfl ?_
 rintro v S ⟨rfl, rfl⟩
 refine l_tell rfl ?_
 repeat' first | refine wk ?_ | refine wc ?_ ?_ <;> intro h <;> try omega | fail
 refine c_call (s_suNewest none 0) rfl xpkd rfl rfl ?_
 rintro v S ⟨rfl, rfl⟩
 refine l_tell rfl ?_
 repeat' first | refine wk ?_ | refine wc ?_ ?_ <;> intro h <;> try omega | fail
 refine o_alloc rfl rfl fun b11 => ?_
 repeat' first | refine wk ?_ | refine wc ?_ ?_ <;> intro h <;> try omega | fail
 refine l_ent ((Ent.pick (Pre := [caC cc L d cap mp 0, lruC L cap [], amap mp kInt [], pgsC [], dskC d room ⟨o, none, none, none⟩ fu, vaC V cc s T d (.pointer none) (.pointer none) none 0 0 0 su0 su0 none 0 0, spC s [] 0, trC T cc s]) xpkd).trans ((ent_fresh ⟨cc, d, room, cap, n, o, none, none⟩ fu L mp none (Nat.zero_le _) [vaC V cc s T d (.pointer none) (.pointer none) none 0 0 0 su0 su0 none 0 0, spC s [] 0, trC T cc s]).trans (Ent.pick (Pre := [vaC V cc s T d (.pointer none) (.pointer none) none 0 0 0 su0 su0 none 0 0, spC s [] 0, stC ⟨cc, d, room, cap, n, o, none, none⟩ (fun _ => none) 0 fu, trC T cc s]) xpkd))) ?_
 refine c_call (hlay V cc s T) rfl xpkd rfl rfl ?_
 rintro v S ⟨rfl, hR⟩
 rw [List.append_nil]
 repeat' first | refine wk ?_ | refine wc ?_ ?_ <;> intro h <;> try omega | fail
 exact b_ret S rfl (Ent.refl _) ⟨V, cc, s, T, rfl, hR⟩
end Go.Ox
end
section
set_option maxRecDepth 100000
namespace Go.Ox
open Go Go.Proofs
theorem pick_pre : ∀ (Pre R : List Asn), Pick (Pre ++ R) Pre R
 | [], _ => .nil
 | _ :: Pre, R => .cons .here (pick_pre Pre R)
theorem d_166 (x : Value) : DSpec Tryz.prog 166 [x] [] (fun S => S = []) := dspec_recov fun w =>
 d_recov Tryz.func166 rfl rfl rfl Tryz.results166 (by rw [Tryz.ntmps166]; decide) (by rw [Tryz.ntmps166]; decide) (by rw [Tryz.ntmps166]; decide) (by rw [Tryz.ntmps166]; decide) (by rw [Tryz.ntmps166]; show 1 ≤ _; omega)
theorem s_tried (f : FuncId) (us cs : List Value) (Pre : List Asn) (R : List Asn → Prop) (hs : Spec Tryz.prog f (us ++ [] ++ cs) Pre (fun _ S => R S)) (hf : Tab.enters (P := Tryz.prog) f = true) :
  Spec Tryz.prog 110 [.func (.func f) us.toArray cs.toArray] Pre (fun v S => v = .int .i64 0 ∧ R S) := by
 refine spec_of_d Tryz.func110 rfl Tryz.results110 Tryz.ntmps110 rfl ?_
 repeat' first | refine wk ?_ | refine wc ?_ ?_ <;> intro h <;> try omega | fail
 refine o_alloc rfl rfl fun rb => ?_
 repeat' first | refine wk ?_ | refine wc ?_ ?_ <;> intro h <;> try omega | fail
 refine l_defer rfl rfl ?_
 repeat' first | refine wk ?_ | refine wc ?_ ?_ <;> intro h <;> try omega | fail
 refine l_ent (Ent.perm (List.perm_append_comm (l₁ := [cellsAt rb 29 i29.zero]) (l₂ := Pre))) ?_
 refine c_callV (us := us) (vs := []) (cs := cs) rfl hs rfl (pick_pre Pre _) hf rfl ?_
 rintro v S hR
 refine l_ent (Ent.perm (List.perm_append_comm (l₁ := S) (l₂ := [cellsAt rb 29 i29.zero]))) ?_
 show TripL _ _ _ _ _ _ (cellsAt rb 29 [.int .i64 0] :: S) _
 repeat' first | refine wk ?_ | refine wc ?_ ?_ <;> intro h <;> try omega | fail
 refine bd_ret (out_recov (d_166 _) rfl rfl ?_)
 exact out_nil S (.cons (.cell fun N D => c_load (b := rb) rfl xfnd rfl rfl rfl) .nil) (Ent.drop _ _) ⟨rfl, hR⟩
theorem s_ssize (d room fu : Nat) (F : Fs) (n : Nm) : Spec Tryz.prog 172 [.pointer (some ⟨d, 0, none⟩), .string n.name] [dskC d room F fu] (fun v S => v = .int .i64 (lenO (F.get n) : Nat) ∧ S = [dskC d room F fu]) := by
 refine spec_of Tryz.func172 rfl Tryz.results172 Tryz.ntmps172 rfl ?_
 repeat' first | refine wk ?_ | refine wc ?_ ?_ <;> intro h <;> try omega | fail
 refine c_call (s_size4 d room fu F n) rfl xpkd rfl rfl ?_
 rintro v S ⟨rfl, rfl⟩
 refine l_tell rfl ?_
 repeat' first | refine l_qp (by exact q_maxE (szI_max _) rfl rfl) rfl ?_ | refine d_qp rfl (by exact q_maxE (szI_max _) rfl rfl) rfl ?_ | refine d_gqp rfl rfl (by exact q_maxE (szI_max _) rfl rfl) rfl ?_ | refine wk ?_ | refine wc ?_ ?_ <;> intro h <;> try omega | fail
 exact b_ret _ rfl (Ent.refl _) ⟨rfl, rfl⟩
theorem s_openHead0 : Spec Tryz.prog 258 [.slice none 0 0] [] (fun v S => v = .tuple #[.agg #[.int .i64 0, .bool false, .int .i64 0, .int .u32 0], .int .i64 3] ∧ S = []) := by
 refine spec_of_d Tryz.func258 rfl Tryz.results258 Tryz.ntmps258 rfl ?_
 repeat' first | refine wk ?_ | refine wc ?_ ?_ <;> intro h <;> try omega | fail
 refine o_alloc rfl rfl fun rb => ?_
 repeat' first | refine wk ?_ | refine wc ?_ ?_ <;> intro h <;> try omega | fail
 exact bd_ret (out_nil [] (.cons (.cell fun N D => c_loadA (b := rb) rfl xfnd rfl rfl rfl) (.cons (.tmp rfl) .nil)) (Ent.pick xpkd) ⟨rfl, rfl⟩)
end Go.Ox
end
