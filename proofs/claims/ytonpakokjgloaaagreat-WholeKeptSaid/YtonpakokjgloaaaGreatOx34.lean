/- WholeKept, part 34. No condition. -/
import Derived.Test.YtonpakokjgloaaaGreatOx33
set_option linter.all false
section
set_option maxRecDepth 100000
set_option maxHeartbeats 1600000
namespace Go.Ox
open Go Go.Proofs
theorem d_221 (vb rb mb mk : Nat) (V : Value) : DSpec Tryz.prog 221 [.pointer (some ⟨rb, 0, none⟩), .pointer (some ⟨vb, 0, none⟩), .pointer (some ⟨mb, 0, none⟩)] [cellsAt rb 29 [.int .i64 0]] (fun S => S = [cellsAt rb 29 [.int .i64 0]]) := by
 refine dspec_of Tryz.func221 rfl Tryz.results221 Tryz.ntmps221 rfl ?_
 repeat' first | refine wk ?_ | refine wc ?_ ?_ <;> intro h <;> try omega | fail
 exact b_end [cellsAt rb 29 [.int .i64 0]] rfl (Ent.refl _) rfl
theorem s_vready (A : Asn) (V T s tk t : Nat) (K : SK) (hK : K.ok) (pg : Nat → Option (List Nat)) (sl fu : Nat) (us : List Nat) (vs : List Vn) (lv : Value) (pa : Option Addr) (pn pc cur : Nat) (su nx : Su) (ka : Option Addr) (kn kc : Nat) (a : Option Addr) (n c cur' o : Nat)
  (hA : Rds [A] a n 2 (vsV vs)) (hl : vs.length = n) (hn1 : 1 ≤ n) (hn2 : n ≤ 16) (ho : ∀ v ∈ vs, v.ok) (hg : su.g < 1099511627776) (hu : us.length + 2 ≤ K.n) (ht : tk ≤ 1000000000) (hcost : 256 * K.n * K.cap ≤ 10000000) :
  Spec Tryz.prog 159 [.pointer (some ⟨V, 0, none⟩), .agg #[.slice a n c, .int .i64 (cur' : Int)], .int .i64 (o : Int)] [vaC V K.cc s T K.d (.pointer (some ⟨t, 0, none⟩)) lv pa pn pc cur su nx ka kn kc, spC s us tk, stC K pg sl (fu + 10000000 + 256 * K.n), tlC t K.d (lenO K.t), A]
   (fun v S => ∃ no b, 1 ≤ no ∧ no ≤ us.length + 1 ∧ no ∉ us ∧ v = .tuple #[(Su.mk (su.g + 1) no cur' (lenO K.t) o).v, .int .i64 0] ∧ S = [vaC V K.cc s T K.d (.pointer (some ⟨t, 0, none⟩)) lv pa pn pc cur su nx ka kn kc, spC s (no :: us) (tk + 1), stC K (updP pg no (some b)) (256 * (no + 1)) fu, tlC t K.d (lenO K.t), A]) := by
 have hK' := hK
 obtain ⟨k1, k2, k3, k4, k5, k6⟩ := hK
 refine spec_of_d Tryz.func159 rfl Tryz.results159 Tryz.ntmps159 rfl ?_
 repeat' first | refine wk ?_ | refine wc ?_ ?_ <;> intro h <;> try omega | fail
 refine o_box rfl rfl rfl fun b3 => ?_
 refine o_box rfl rfl rfl fun b4 => ?_
 refine o_alloc rfl rfl fun r6 => ?_
 refine o_alloc rfl rfl fun r7 => ?_
 repeat' first | refine wk ?_ | refine wc ?_ ?_ <;> intro h <;> try omega | fail
 refine c_call (s_pPack A a n c vs hA hl hn1 hn2 ho) rfl xpkd rfl rfl ?_
 rintro v S ⟨a1, c1, rfl, rfl⟩
 refine l_tell rfl ?_
 repeat' first | refine wk ?_ | refine wc ?_ ?_ <;> intro h <;> try omega | fail
 refine c_call (s_spMark s tk us) rfl xpkd rfl rfl ?_
 rintro v S ⟨tn, rfl, rfl⟩
 refine l_tell rfl ?_
 repeat' first | refine wk ?_ | refine wc ?_ ?_ <;> intro h <;> try omega | fail
 refine o_alloc rfl rfl fun r9 => ?_
 repeat' first | refine wk ?_ | refine wc ?_ ?_ <;> intro h <;> try omega | fail
 refine l_defer rfl rfl ?_
 repeat' first | refine wk ?_ | refine wc ?_ ?_ <;> intro h <;> try omega | fail
 refine c_call (s_spTake s tk us (by omega) ht) rfl xpkd rfl rfl ?_
 rintro v S ⟨no, n1, n2, n3, rfl, rfl⟩
 refine l_tell rfl ?_
 repeat' first | refine wk ?_ | refine wc ?_ ?_ <;> intro h <;> try omega | fail
 have hrl := rollB_len vs
 refine c_call (s_pagePack (own a1 (1 + 8 * n) c1 5 1 (Go.Ox.vb (rollB vs))) no 3 a1 (1 + 8 * n) c1 (rollB vs) (Rds.own 0 rfl) (by omega) (by omega) (by omega) (by omega) (by omega) (rollB_lt vs (by omega))) rfl xpkd rfl rfl ?_
 rintro v S ⟨pb, rfl, rfl⟩
 refine l_tell rfl ?_
 repeat' first | refine wk ?_ | refine wc ?_ ?_ <;> intro h <;> try omega | fail
 generalize hpb : pageB no 3 (rollB vs) = pgb
 refine l_ent (S' := [own (some ⟨pb, 0, none⟩) 256 256 393 1 (Go.Ox.vb pgb), stC K pg sl (fu + 10000000 + 256 * K.n), spC s (no :: us) (tk + 1), tlC t K.d (lenO K.t), A, vaC V K.cc s T K.d (.pointer (some ⟨t, 0, none⟩)) lv pa pn pc cur su nx ka kn kc, cellsAt b3 80 [.pointer (some ⟨V, 0, none⟩)], cellsAt b4 103 [.slice a n c, .int .i64 (cur' : Int)], cellsAt r6 109 [.int .i64 0, .int .i64 0, .int .i64 0, .int .i64 0, .int .i64 0], cellsAt r7 29 [.int .i64 0]]) (Ent.pick xpkd) ?_
 refine l_fact (p := pgb.length = 256) (fun h hs => by
  obtain ⟨_, _, _, _, _, ⟨q1, _⟩, _⟩ := hs
  simpa [Go.Ox.vb] using q1) fun hpl => ?_
 refine c_call (s_put (own (some ⟨pb, 0, none⟩) 256 256 393 1 (Go.Ox.vb pgb)) K hK' pg sl (fu + 10000000) no (some ⟨pb, 0, none⟩) 256 pgb (Rds.own 0 rfl) hpl n1 (by omega)) rfl xpkd rfl rfl ?_
 rintro v S ⟨rfl, rfl⟩
 refine l_tell rfl ?_
 repeat' first | refine wk ?_ | refine wc ?_ ?_ <;> intro h <;> try omega | fail
 refine c_call (s_flush K hK' (updP pg no (some pgb)) sl fu 10000000 no pgb (by simp [updP]) hcost) rfl xpkd rfl rfl ?_
 rintro v S ⟨rfl, rfl⟩
 refine l_tell rfl ?_
 repeat' first | refine wk ?_ | refine wc ?_ ?_ <;> intro h <;> try omega | fail
 refine c_call (s_sttlSync t (lenO K.t) K hK' (updP pg no (some pgb)) (256 * (no + 1)) fu) rfl xpkd rfl rfl ?_
 rintro v S ⟨rfl, rfl⟩
 refine l_tell rfl ?_
 repeat' first | refine wk ?_ | refine wc ?_ ?_ <;> intro h <;> try omega | fail
 refine t_draw (id := 20) (.eval 0 false (.eval 1 true (.eval 2 true (.eval 3 true (.eval 4 false (.eval 5 true (.eval 6 true (.eval 7 true (.eval 8 false (.eval 9 false (.eval 10 true (.eval 11 true (.eval 12 false (.eval 14 true (.eff 13 [0, 4, 8, 9] (.eff 15 [0, 4, 8, 9, 12] (.eval 16 true (.eff 17 [8, 9, 12] (.eval 18 true (.eff 19 [8, 9, 12] (.eval 20 true (.eff 21 [9, 12] (.eval 22 true (.eff 23 [] (.eval 24 true (.eff 25 [] (.eff 26 [] .fin .stop) .stop)) .stop)) .stop)) .stop)) .stop)) .stop) .stop))))))))))))))) rfl (by kernel_rfl) ?_
 repeat' first | refine wk ?_ | refine wc ?_ ?_ <;> intro h <;> try omega | fail
 refine c_call (s_tlLen t K.d (lenO K.t)) rfl xpkd rfl rfl ?_
 rintro v S ⟨rfl, rfl⟩
 refine l_tell rfl ?_
 repeat' first | refine wk ?_ | refine wc ?_ ?_ <;> intro h <;> try omega | fail
 refine bd_ret (out_cons (d_221 b3 r7 r9 0 .nilIface) rfl rfl xpkd (fun S' hS => ?_))
 subst hS
 exact out_nil [vaC V K.cc s T K.d (.pointer (some ⟨t, 0, none⟩)) lv pa pn pc cur su nx ka kn kc, spC s (no :: us) (tk + 1), stC K (updP pg no (some pgb)) (256 * (no + 1)) fu, tlC t K.d (lenO K.t), A] (.cons (.cell fun N D => c_loadA (b := r6) rfl xfnd rfl rfl rfl) (.cons (.cell fun N D => c_load (b := r7) rfl xfnd rfl rfl rfl) .nil)) (Ent.pick xpkd) ⟨no, pgb, n1, n2, n3, rfl, rfl⟩
end Go.Ox
end
section
set_option maxRecDepth 100000
set_option maxHeartbeats 1600000
namespace Go.Ox
open Go Go.Proofs
theorem s_vcount (A : Asn) (V T s tk B t : Nat) (K : SK) (hK : K.ok) (pg : Nat → Option (List Nat)) (sl fu : Nat) (us ks : List Nat) (vs : List Vn) (l : Nat) (pa : Option Addr) (pn pc cur : Nat) (su nx su' : Su) (ka ka' : Option Addr) (kn kc kc' : Nat) (a : Option Addr) (n c : Nat)
  (hA : Rds [A] a n 2 (vsV vs)) (hn : n ≤ 1000) (hsu : su'.ok) (hsl : 64 ≤ sl) (hu : us.length ≤ 1000000) (hb : ∀ k ∈ us, k + 1 ≤ B) (hB : B ≤ 1048576) (hks : ks.length ≤ 1000) (hkr : ∀ k ∈ su'.r :: ks, 1 ≤ k ∧ k < 1048576) :
  Spec Tryz.prog 161 [.pointer (some ⟨V, 0, none⟩), su'.v, .slice a n c, .slice ka' ks.length kc'] [vaC V K.cc s T K.d (.pointer (some ⟨t, 0, none⟩)) (.pointer (some ⟨l, 0, none⟩)) pa pn pc cur su nx ka kn kc, own ka' ks.length kc' 3 1 (natsV ks), spC s us tk, stC K pg sl (fu + 64), A]
   (fun v S => ∃ us' pa' pc', (∀ k, k ∈ us' ↔ k ∈ su'.r :: ks) ∧ us'.length ≤ ks.length + 1 ∧ v = .int .i64 0 ∧ S = [vaC V K.cc s T K.d (.pointer (some ⟨t, 0, none⟩)) (.pointer (some ⟨l, 0, none⟩)) pa' n pc' su'.c su' su0 ka' ks.length kc', own pa' n pc' 182 2 (vsV vs), own ka' ks.length kc' 3 1 (natsV ks), spC s us' 0, stC K (rpg pg (su'.r :: ks)) sl fu, A]) := by
 refine spec_of Tryz.func161 rfl Tryz.results161 Tryz.ntmps161 rfl ?_
 show Trip _ _ _ _ (numF 0 [.pointer (some ⟨V, 0, none⟩), .agg #[.int .i64 (su'.g : Int), .int .i64 (su'.r : Int), .int .i64 (su'.c : Int), .int .i64 (su'.t : Int), .int .i64 (su'.o : Int)], .slice a n c, .slice ka' ks.length kc']) _ _
 repeat' first | refine wk ?_ | refine wc ?_ ?_ <;> intro h <;> try omega | fail
 refine o_box rfl rfl rfl fun b5 => ?_
 repeat' first | refine wk ?_ | refine wc ?_ ?_ <;> intro h <;> try omega | fail
 refine c_call (s_suPack su' hsu) rfl .nil rfl rfl ?_
 rintro v S ⟨sa, sc, bs, hbs, hblt, rfl, rfl⟩
 refine l_tell rfl ?_
 refine l_fact (p := 64 ≤ sc) (fun h hs => by obtain ⟨_, _, _, _, _, ⟨_, _, q3, _⟩, _⟩ := hs; exact q3) fun hsc => ?_
 repeat' first | refine wk ?_ | refine wc ?_ ?_ <;> intro h <;> try omega | fail
 refine t_draw (id := 3) (.eval 0 true (.eval 1 true (.eval 2 true (.eval 3 false (.eval 4 true (.eval 5 false (.eval 7 true (.eff 6 [3] (.eff 8 [5] (.eff 9 [] .fin .stop) .stop) .stop)))))))) rfl (by kernel_rfl) ?_
 repeat' first | refine wk ?_ | refine wc ?_ ?_ <;> intro h <;> try omega | fail
 refine c_call (s_suPlace su'.g hsu.2.1) rfl .nil rfl rfl ?_
 rintro v S ⟨rfl, rfl⟩
 refine l_tell rfl ?_
 repeat' first | refine wk ?_ | refine wc ?_ ?_ <;> intro h <;> try omega | fail
 refine c_call (s_sthead (own sa 64 sc 5 1 (vb bs)) K hK pg sl fu (64 * (su'.g % 2)) sa sc bs (Rds.own 0 rfl) hbs hsc (by omega) (by omega)) rfl xpkd rfl rfl ?_
 rintro v S ⟨rfl, rfl⟩
 refine l_tell rfl ?_
 repeat' first | refine wk ?_ | refine wc ?_ ?_ <;> intro h <;> try omega | fail
 refine c_call (s_stsync K hK pg sl fu (by omega)) rfl xpkd rfl rfl ?_
 rintro v S ⟨rfl, rfl⟩
 refine l_tell rfl ?_
 repeat' first | refine wk ?_ | refine wc ?_ ?_ <;> intro h <;> try omega | fail
 refine c_call (s_vadopt A V T s tk B t K pg sl fu us ks vs l pa pn pc cur su nx su' ka ka' kn kc kc' a n c hA hn hsu.2.2.2.2.2.2 hu hb hB hks hkr) rfl xpkd rfl rfl ?_
 rintro v S ⟨us', pa', pc', k1, k2, rfl, rfl⟩
 refine l_tell rfl ?_
 repeat' first | refine wk ?_ | refine wc ?_ ?_ <;> intro h <;> try omega | fail
 exact b_ret [vaC V K.cc s T K.d (.pointer (some ⟨t, 0, none⟩)) (.pointer (some ⟨l, 0, none⟩)) pa' n pc' su'.c su' su0 ka' ks.length kc', own pa' n pc' 182 2 (vsV vs), own ka' ks.length kc' 3 1 (natsV ks), spC s us' 0, stC K (rpg pg (su'.r :: ks)) sl fu, A] rfl (Ent.pick xpkd) ⟨us', pa', pc', k1, k2, rfl, rfl⟩
theorem s_vsure (A : Asn) (V T s tk t : Nat) (K : SK) (hK : K.ok) (pg : Nat → Option (List Nat)) (sl fu : Nat) (us : List Nat) (vs : List Vn) (l : Nat) (pa : Option Addr) (pn pc cur : Nat) (su nx : Su) (ka : Option Addr) (kn kc : Nat) (a : Option Addr) (n c cur' : Nat)
  (hA : Rds [A] a n 2 (vsV vs)) (hl : vs.length = n) (hn1 : 1 ≤ n) (hn2 : n ≤ 16) (ho : ∀ v ∈ vs, v.ok) (hv : ∀ v ∈ vs, v.r ≠ 0 → v.r ∈ us ∧ ∃ ps, pg v.r = some (lfB v.r ps) ∧ LfOk ps) (hc : cur' < 16) (hg : su.g < 1099511627776) (hot : su.o ≤ 1048576) (htl : lenO K.t ≤ 16777216) (hu : us.length + 2 ≤ K.n) (hun : us.length ≤ 999999) (hb : ∀ k ∈ us, k + 1 ≤ K.n) (ht : tk ≤ 1000000000) (hcost : 256 * K.n * K.cap ≤ 10000000) :
  Spec Tryz.prog 103 [.pointer (some ⟨V, 0, none⟩), .agg #[.slice a n c, .int .i64 (cur' : Int)]] [vaC V K.cc s T K.d (.pointer (some ⟨t, 0, none⟩)) (.pointer (some ⟨l, 0, none⟩)) pa pn pc cur su nx ka kn kc, spC s us tk, stC K pg sl (fu + 64 + 256 * K.n * n + 10000000 + 256 * K.n), tlC t K.d (lenO K.t), trC T K.cc s, A]
   (fun v S => ∃ no b us' ks pa' pc' ka' kc', 1 ≤ no ∧ no ≤ us.length + 1 ∧ no ∉ us ∧ (∀ k, k ∈ ks ↔ vRoots vs k) ∧ ks.length ≤ n ∧ (∀ k, k ∈ us' ↔ k ∈ no :: ks) ∧ us'.length ≤ n + 1 ∧ v = .int .i64 0 ∧ S = [vaC V K.cc s T K.d (.pointer (some ⟨t, 0, none⟩)) (.pointer (some ⟨l, 0, none⟩)) pa' n pc' cur' ⟨su.g + 1, no, cur', lenO K.t, su.o⟩ su0 ka' ks.length kc', own pa' n pc' 182 2 (vsV vs), own ka' ks.length kc' 3 1 (natsV ks), spC s us' 0, stC K (rpg (updP pg no (some b)) (no :: ks)) (256 * (no + 1)) fu, tlC t K.d (lenO K.t), trC T K.cc s, A]) := by
 have hK' := hK
 obtain ⟨k1, k2, k3, k4, k5, k6⟩ := hK
 refine spec_of Tryz.func103 rfl Tryz.results103 Tryz.ntmps103 rfl ?_
 repeat' first | refine wk ?_ | refine wc ?_ ?_ <;> intro h <;> try omega | fail
 refine o_box rfl rfl rfl fun b3 => ?_
 repeat' first | refine wk ?_ | refine wc ?_ ?_ <;> intro h <;> try omega | fail
 refine t_draw (id := 1) (.eval 0 true (.eval 1 false (.eval 2 true (.eval 3 true (.eval 4 true (.eval 5 true (.eval 6 false (.eff 7 [] (.eval 8 true (.eval 9 true (.eval 10 true (.eff 11 [1, 6] (.eff 12 [] (.eff 13 [] .fin .stop) .stop) .stop)))) (.eff 11 [1, 6] (.eff 7 [] (.eval 8 true (.eval 9 true (.eval 10 true (.eff 12 [] (.eff 13 [] .fin .stop) .stop)))) .stop) .stop))))))))) rfl (by kernel_rfl) ?_
 repeat' first | refine wk ?_ | refine wc ?_ ?_ <;> intro h <;> try omega | fail
 refine d_eff rfl ?_ ?_
 ·refine c_call (s_vready A V T s tk t K hK' pg sl (fu + 64 + 256 * K.n * n) us vs (.pointer (some ⟨l, 0, none⟩)) pa pn pc cur su nx ka kn kc a n c cur' su.o hA hl hn1 hn2 ho hg hu ht hcost) rfl xpkd rfl rfl ?_
  rintro v S ⟨no, b, n1, n2, n3, rfl, rfl⟩
  refine l_tell rfl ?_
  repeat' first | refine wk ?_ | refine wc ?_ ?_ <;> intro h <;> try omega | fail
  refine o_alloc rfl rfl fun r5 => ?_
  repeat' first | refine wk ?_ | refine wc ?_ ?_ <;> intro h <;> try omega | fail
  have hupd : ∀ v ∈ vs, v.r ≠ 0 → ∃ ps, updP pg no (some b) v.r = some (lfB v.r ps) ∧ LfOk ps := fun v hvv h0 => by
   obtain ⟨h1, ps, h2, h3⟩ := hv v hvv h0
   refine ⟨ps, ?_, h3⟩
   unfold updP
   rw [if_neg (fun e => n3 (by rw [← e]; exact h1))]; exact h2
  refine t_draw (id := 4) (.eval 0 true (.eval 1 true (.eval 2 true (.eval 3 true (.eval 4 false (.eval 5 true (.eval 6 false (.eff 7 [] (.eval 8 true (.eval 9 true (.eval 10 true (.eff 11 [] (.eff 12 [] .fin .stop) .stop)))) .stop)))))))) rfl (by kernel_rfl) ?_
  repeat' first | refine wk ?_ | refine wc ?_ ?_ <;> intro h <;> try omega | fail
  refine c_call (s_census A T s K hK' (updP pg no (some b)) (256 * (no + 1)) (fu + 64) a n c vs hA hl (by omega) ho hupd) rfl xpkd rfl rfl ?_
  rintro v S ⟨ka', kc', ks, hks, hkl, rfl, rfl⟩
  refine l_tell rfl ?_
  have hkus : ∀ k ∈ ks, k ∈ us := fun k hk => by
   obtain ⟨h0, v, hvv, rfl⟩ := (hks k).1 hk
   exact (hv v hvv h0).1
  have hk1 : ∀ k ∈ ks, 1 ≤ k := fun k hk => by
   obtain ⟨h0, _⟩ := (hks k).1 hk
   omega
  repeat' first | refine wk ?_ | refine wc ?_ ?_ <;> intro h <;> try omega | fail
  refine c_call (s_vcount A V T s (tk + 1) K.n t K hK' (updP pg no (some b)) (256 * (no + 1)) fu (no :: us) ks vs l pa pn pc cur su nx ⟨su.g + 1, no, cur', lenO K.t, su.o⟩ ka ka' kn kc kc' a n c hA (by omega) ⟨by show 1 ≤ su.g + 1; omega, by show su.g + 1 ≤ _; omega, n1, by show no < _; omega, hc, htl, hot⟩ (by omega) (by simp; omega) (fun k hk => by
   rcases List.mem_cons.1 hk with h | hk
   ·omega
   ·exact hb k hk) (by omega) (by omega) (fun k hk => by
   rcases List.mem_cons.1 hk with h | hk
   ·rw [h]; exact ⟨n1, by show no < 1048576; omega⟩
   ·have := hb k (hkus k hk); exact ⟨hk1 k hk, by omega⟩)) rfl xpkd rfl rfl ?_
  rintro v S ⟨us', pa', pc', g1, g2, rfl, rfl⟩
  refine l_tell rfl ?_
  repeat' first | refine wk ?_ | refine wc ?_ ?_ <;> intro h <;> try omega | fail
  exact b_ret [vaC V K.cc s T K.d (.pointer (some ⟨t, 0, none⟩)) (.pointer (some ⟨l, 0, none⟩)) pa' n pc' cur' ⟨su.g + 1, no, cur', lenO K.t, su.o⟩ su0 ka' ks.length kc', own pa' n pc' 182 2 (vsV vs), own ka' ks.length kc' 3 1 (natsV ks), spC s us' 0, stC K (rpg (updP pg no (some b)) (no :: ks)) (256 * (no + 1)) fu, tlC t K.d (lenO K.t), trC T K.cc s, A] rfl (Ent.pick xpkd) ⟨no, b, us', ks, pa', pc', ka', kc', n1, n2, n3, hks, hkl, g1, by omega, rfl, rfl⟩
 ·refine d_eff rfl ?_ d_stop
  refine o_alloc rfl rfl fun r5 => ?_
  repeat' first | refine wk ?_ | refine wc ?_ ?_ <;> intro h <;> try omega | fail
  refine c_call (s_vready A V T s tk t K hK' pg sl (fu + 64 + 256 * K.n * n) us vs (.pointer (some ⟨l, 0, none⟩)) pa pn pc cur su nx ka kn kc a n c cur' su.o hA hl hn1 hn2 ho hg hu ht hcost) rfl xpkd rfl rfl ?_
  rintro v S ⟨no, b, n1, n2, n3, rfl, rfl⟩
  refine l_tell rfl ?_
  repeat' first | refine wk ?_ | refine wc ?_ ?_ <;> intro h <;> try omega | fail
  have hupd : ∀ v ∈ vs, v.r ≠ 0 → ∃ ps, updP pg no (some b) v.r = some (lfB v.r ps) ∧ LfOk ps := fun v hvv h0 => by
   obtain ⟨h1, ps, h2, h3⟩ := hv v hvv h0
   refine ⟨ps, ?_, h3⟩
   unfold updP
   rw [if_neg (fun e => n3 (by rw [← e]; exact h1))]; exact h2
  refine t_draw (id := 4) (.eval 0 true (.eval 1 true (.eval 2 true (.eval 3 true (.eval 4 false (.eval 5 true (.eval 6 false (.eff 7 [] (.eval 8 true (.eval 9 true (.eval 10 true (.eff 11 [] (.eff 12 [] .fin .stop) .stop)))) .stop)))))))) rfl (by kernel_rfl) ?_
  repeat' first | refine wk ?_ | refine wc ?_ ?_ <;> intro h <;> try omega | fail
  refine c_call (s_census A T s K hK' (updP pg no (some b)) (256 * (no + 1)) (fu + 64) a n c vs hA hl (by omega) ho hupd) rfl xpkd rfl rfl ?_
  rintro v S ⟨ka', kc', ks, hks, hkl, rfl, rfl⟩
  refine l_tell rfl ?_
  have hkus : ∀ k ∈ ks, k ∈ us := fun k hk => by
   obtain ⟨h0, v, hvv, rfl⟩ := (hks k).1 hk
   exact (hv v hvv h0).1
  have hk1 : ∀ k ∈ ks, 1 ≤ k := fun k hk => by
   obtain ⟨h0, _⟩ := (hks k).1 hk
   omega
  repeat' first | refine wk ?_ | refine wc ?_ ?_ <;> intro h <;> try omega | fail
  refine c_call (s_vcount A V T s (tk + 1) K.n t K hK' (updP pg no (some b)) (256 * (no + 1)) fu (no :: us) ks vs l pa pn pc cur su nx ⟨su.g + 1, no, cur', lenO K.t, su.o⟩ ka ka' kn kc kc' a n c hA (by omega) ⟨by show 1 ≤ su.g + 1; omega, by show su.g + 1 ≤ _; omega, n1, by show no < _; omega, hc, htl, hot⟩ (by omega) (by simp; omega) (fun k hk => by
   rcases List.mem_cons.1 hk with h | hk
   ·omega
   ·exact hb k hk) (by omega) (by omega) (fun k hk => by
   rcases List.mem_cons.1 hk with h | hk
   ·rw [h]; exact ⟨n1, by show no < 1048576; omega⟩
   ·have := hb k (hkus k hk); exact ⟨hk1 k hk, by omega⟩)) rfl xpkd rfl rfl ?_
  rintro v S ⟨us', pa', pc', g1, g2, rfl, rfl⟩
  refine l_tell rfl ?_
  repeat' first | refine wk ?_ | refine wc ?_ ?_ <;> intro h <;> try omega | fail
  exact b_ret [vaC V K.cc s T K.d (.pointer (some ⟨t, 0, none⟩)) (.pointer (some ⟨l, 0, none⟩)) pa' n pc' cur' ⟨su.g + 1, no, cur', lenO K.t, su.o⟩ su0 ka' ks.length kc', own pa' n pc' 182 2 (vsV vs), own ka' ks.length kc' 3 1 (natsV ks), spC s us' 0, stC K (rpg (updP pg no (some b)) (no :: ks)) (256 * (no + 1)) fu, tlC t K.d (lenO K.t), trC T K.cc s, A] rfl (Ent.pick xpkd) ⟨no, b, us', ks, pa', pc', ka', kc', n1, n2, n3, hks, hkl, g1, by omega, rfl, rfl⟩
theorem s_vcount0 (A : Asn) (V T s tk B t : Nat) (K : SK) (hK : K.ok) (pg : Nat → Option (List Nat)) (sl fu : Nat) (us ks : List Nat) (vs : List Vn) (pa : Option Addr) (pn pc cur : Nat) (su nx su' : Su) (ka ka' : Option Addr) (kn kc kc' : Nat) (a : Option Addr) (n c : Nat)
  (hA : Rds [A] a n 2 (vsV vs)) (hn : n ≤ 1000) (hsu : su'.ok) (hsl : 64 ≤ sl) (hu : us.length ≤ 1000000) (hb : ∀ k ∈ us, k + 1 ≤ B) (hB : B ≤ 1048576) (hks : ks.length ≤ 1000) (hkr : ∀ k ∈ su'.r :: ks, 1 ≤ k ∧ k < 1048576) :
  Spec Tryz.prog 161 [.pointer (some ⟨V, 0, none⟩), su'.v, .slice a n c, .slice ka' ks.length kc'] [vaC V K.cc s T K.d (.pointer (some ⟨t, 0, none⟩)) (.pointer none) pa pn pc cur su nx ka kn kc, own ka' ks.length kc' 3 1 (natsV ks), spC s us tk, stC K pg sl (fu + 64), A]
   (fun v S => ∃ l x mp us' pa' pc', (∀ k, k ∈ us' ↔ k ∈ su'.r :: ks) ∧ us'.length ≤ ks.length + 1 ∧ v = .int .i64 0 ∧ S = [vaC V K.cc s T K.d (.pointer (some ⟨t, 0, none⟩)) (.pointer (some ⟨l, 0, none⟩)) pa' n pc' su'.c su' su0 ka' ks.length kc', own pa' n pc' 182 2 (vsV vs), own ka' ks.length kc' 3 1 (natsV ks), spC s us' 0, stC K (rpg pg (su'.r :: ks)) sl fu, A, lnC l T x t, ixC x K.d mp su'.o, amap mp kInt []]) := by
 refine spec_of Tryz.func161 rfl Tryz.results161 Tryz.ntmps161 rfl ?_
 show Trip _ _ _ _ (numF 0 [.pointer (some ⟨V, 0, none⟩), .agg #[.int .i64 (su'.g : Int), .int .i64 (su'.r : Int), .int .i64 (su'.c : Int), .int .i64 (su'.t : Int), .int .i64 (su'.o : Int)], .slice a n c, .slice ka' ks.length kc']) _ _
 repeat' first | refine wk ?_ | refine wc ?_ ?_ <;> intro h <;> try omega | fail
 refine o_box rfl rfl rfl fun b5 => ?_
 repeat' first | refine wk ?_ | refine wc ?_ ?_ <;> intro h <;> try omega | fail
 refine c_call (s_suPack su' hsu) rfl .nil rfl rfl ?_
 rintro v S ⟨sa, sc, bs, hbs, hblt, rfl, rfl⟩
 refine l_tell rfl ?_
 refine l_fact (p := 64 ≤ sc) (fun h hs => by obtain ⟨_, _, _, _, _, ⟨_, _, q3, _⟩, _⟩ := hs; exact q3) fun hsc => ?_
 repeat' first | refine wk ?_ | refine wc ?_ ?_ <;> intro h <;> try omega | fail
 refine t_draw (id := 3) (.eval 0 true (.eval 1 true (.eval 2 true (.eval 3 false (.eval 4 true (.eval 5 false (.eval 7 true (.eff 6 [3] (.eff 8 [5] (.eff 9 [] .fin .stop) .stop) .stop)))))))) rfl (by kernel_rfl) ?_
 repeat' first | refine wk ?_ | refine wc ?_ ?_ <;> intro h <;> try omega | fail
 refine c_call (s_suPlace su'.g hsu.2.1) rfl .nil rfl rfl ?_
 rintro v S ⟨rfl, rfl⟩
 refine l_tell rfl ?_
 repeat' first | refine wk ?_ | refine wc ?_ ?_ <;> intro h <;> try omega | fail
 refine c_call (s_sthead (own sa 64 sc 5 1 (vb bs)) K hK pg sl fu (64 * (su'.g % 2)) sa sc bs (Rds.own 0 rfl) hbs hsc (by omega) (by omega)) rfl xpkd rfl rfl ?_
 rintro v S ⟨rfl, rfl⟩
 refine l_tell rfl ?_
 repeat' first | refine wk ?_ | refine wc ?_ ?_ <;> intro h <;> try omega | fail
 refine c_call (s_stsync K hK pg sl fu (by omega)) rfl xpkd rfl rfl ?_
 rintro v S ⟨rfl, rfl⟩
 refine l_tell rfl ?_
 repeat' first | refine wk ?_ | refine wc ?_ ?_ <;> intro h <;> try omega | fail
 refine c_call (s_vadopt0 A V T s tk B t K pg sl fu us ks vs pa pn pc cur su nx su' ka ka' kn kc kc' a n c hA hn hsu.2.2.2.2.2.2 hu hb hB hks hkr) rfl xpkd rfl rfl ?_
 rintro v S ⟨l, x, mp, us', pa', pc', k1, k2, rfl, rfl⟩
 refine l_tell rfl ?_
 repeat' first | refine wk ?_ | refine wc ?_ ?_ <;> intro h <;> try omega | fail
 exact b_ret [vaC V K.cc s T K.d (.pointer (some ⟨t, 0, none⟩)) (.pointer (some ⟨l, 0, none⟩)) pa' n pc' su'.c su' su0 ka' ks.length kc', own pa' n pc' 182 2 (vsV vs), own ka' ks.length kc' 3 1 (natsV ks), spC s us' 0, stC K (rpg pg (su'.r :: ks)) sl fu, A, lnC l T x t, ixC x K.d mp su'.o, amap mp kInt []] rfl (Ent.pick xpkd) ⟨l, x, mp, us', pa', pc', k1, k2, rfl, rfl⟩
theorem s_vsure0 (A : Asn) (V T s tk t : Nat) (K : SK) (hK : K.ok) (pg : Nat → Option (List Nat)) (sl fu : Nat) (us : List Nat) (vs : List Vn) (pa : Option Addr) (pn pc cur : Nat) (su nx : Su) (ka : Option Addr) (kn kc : Nat) (a : Option Addr) (n c cur' : Nat)
  (hA : Rds [A] a n 2 (vsV vs)) (hl : vs.length = n) (hn1 : 1 ≤ n) (hn2 : n ≤ 16) (ho : ∀ v ∈ vs, v.ok) (hv : ∀ v ∈ vs, v.r ≠ 0 → v.r ∈ us ∧ ∃ ps, pg v.r = some (lfB v.r ps) ∧ LfOk ps) (hc : cur' < 16) (hg : su.g < 1099511627776) (hot : su.o ≤ 1048576) (htl : lenO K.t ≤ 16777216) (hu : us.length + 2 ≤ K.n) (hun : us.length ≤ 999999) (hb : ∀ k ∈ us, k + 1 ≤ K.n) (ht : tk ≤ 1000000000) (hcost : 256 * K.n * K.cap ≤ 10000000) :
  Spec Tryz.prog 103 [.pointer (some ⟨V, 0, none⟩), .agg #[.slice a n c, .int .i64 (cur' : Int)]] [vaC V K.cc s T K.d (.pointer (some ⟨t, 0, none⟩)) (.pointer none) pa pn pc cur su nx ka kn kc, spC s us tk, stC K pg sl (fu + 64 + 256 * K.n * n + 10000000 + 256 * K.n), tlC t K.d (lenO K.t), trC T K.cc s, A]
   (fun v S => ∃ l x mp no b us' ks pa' pc' ka' kc', 1 ≤ no ∧ no ≤ us.length + 1 ∧ no ∉ us ∧ (∀ k, k ∈ ks ↔ vRoots vs k) ∧ ks.length ≤ n ∧ (∀ k, k ∈ us' ↔ k ∈ no :: ks) ∧ us'.length ≤ n + 1 ∧ v = .int .i64 0 ∧ S = [vaC V K.cc s T K.d (.pointer (some ⟨t, 0, none⟩)) (.pointer (some ⟨l, 0, none⟩)) pa' n pc' cur' ⟨su.g + 1, no, cur', lenO K.t, su.o⟩ su0 ka' ks.length kc', own pa' n pc' 182 2 (vsV vs), own ka' ks.length kc' 3 1 (natsV ks), spC s us' 0, stC K (rpg (updP pg no (some b)) (no :: ks)) (256 * (no + 1)) fu, tlC t K.d (lenO K.t), trC T K.cc s, A, lnC l T x t, ixC x K.d mp su.o, amap mp kInt []]) := by
 have hK' := hK
 obtain ⟨k1, k2, k3, k4, k5, k6⟩ := hK
 refine spec_of Tryz.func103 rfl Tryz.results103 Tryz.ntmps103 rfl ?_
 repeat' first | refine wk ?_ | refine wc ?_ ?_ <;> intro h <;> try omega | fail
 refine o_box rfl rfl rfl fun b3 => ?_
 repeat' first | refine wk ?_ | refine wc ?_ ?_ <;> intro h <;> try omega | fail
 refine t_draw (id := 1) (.eval 0 true (.eval 1 false (.eval 2 true (.eval 3 true (.eval 4 true (.eval 5 true (.eval 6 false (.eff 7 [] (.eval 8 true (.eval 9 true (.eval 10 true (.eff 11 [1, 6] (.eff 12 [] (.eff 13 [] .fin .stop) .stop) .stop)))) (.eff 11 [1, 6] (.eff 7 [] (.eval 8 true (.eval 9 true (.eval 10 true (.eff 12 [] (.eff 13 [] .fin .stop) .stop)))) .stop) .stop))))))))) rfl (by kernel_rfl) ?_
 repeat' first | refine wk ?_ | refine wc ?_ ?_ <;> intro h <;> try omega | fail
 refine d_eff rfl ?_ ?_
 ·refine c_call (s_vready A V T s tk t K hK' pg sl (fu + 64 + 256 * K.n * n) us vs (.pointer none) pa pn pc cur su nx ka kn kc a n c cur' su.o hA hl hn1 hn2 ho hg hu ht hcost) rfl xpkd rfl rfl ?_
  rintro v S ⟨no, b, n1, n2, n3, rfl, rfl⟩
  refine l_tell rfl ?_
  repeat' first | refine wk ?_ | refine wc ?_ ?_ <;> intro h <;> try omega | fail
  refine o_alloc rfl rfl fun r5 => ?_
  repeat' first | refine wk ?_ | refine wc ?_ ?_ <;> intro h <;> try omega | fail
  have hupd : ∀ v ∈ vs, v.r ≠ 0 → ∃ ps, updP pg no (some b) v.r = some (lfB v.r ps) ∧ LfOk ps := fun v hvv h0 => by
   obtain ⟨h1, ps, h2, h3⟩ := hv v hvv h0
   refine ⟨ps, ?_, h3⟩
   unfold updP
   rw [if_neg (fun e => n3 (by rw [← e]; exact h1))]; exact h2
  refine t_draw (id := 4) (.eval 0 true (.eval 1 true (.eval 2 true (.eval 3 true (.eval 4 false (.eval 5 true (.eval 6 false (.eff 7 [] (.eval 8 true (.eval 9 true (.eval 10 true (.eff 11 [] (.eff 12 [] .fin .stop) .stop)))) .stop)))))))) rfl (by kernel_rfl) ?_
  repeat' first | refine wk ?_ | refine wc ?_ ?_ <;> intro h <;> try omega | fail
  refine c_call (s_census A T s K hK' (updP pg no (some b)) (256 * (no + 1)) (fu + 64) a n c vs hA hl (by omega) ho hupd) rfl xpkd rfl rfl ?_
  rintro v S ⟨ka', kc', ks, hks, hkl, rfl, rfl⟩
  refine l_tell rfl ?_
  have hkus : ∀ k ∈ ks, k ∈ us := fun k hk => by
   obtain ⟨h0, v, hvv, rfl⟩ := (hks k).1 hk
   exact (hv v hvv h0).1
  have hk1 : ∀ k ∈ ks, 1 ≤ k := fun k hk => by
   obtain ⟨h0, _⟩ := (hks k).1 hk
   omega
  repeat' first | refine wk ?_ | refine wc ?_ ?_ <;> intro h <;> try omega | fail
  refine c_call (s_vcount0 A V T s (tk + 1) K.n t K hK' (updP pg no (some b)) (256 * (no + 1)) fu (no :: us) ks vs pa pn pc cur su nx ⟨su.g + 1, no, cur', lenO K.t, su.o⟩ ka ka' kn kc kc' a n c hA (by omega) ⟨by show 1 ≤ su.g + 1; omega, by show su.g + 1 ≤ _; omega, n1, by show no < _; omega, hc, htl, hot⟩ (by omega) (by simp; omega) (fun k hk => by
   rcases List.mem_cons.1 hk with h | hk
   ·omega
   ·exact hb k hk) (by omega) (by omega) (fun k hk => by
   rcases List.mem_cons.1 hk with h | hk
   ·rw [h]; exact ⟨n1, by show no < 1048576; omega⟩
   ·have := hb k (hkus k hk); exact ⟨hk1 k hk, by omega⟩)) rfl xpkd rfl rfl ?_
  rintro v S ⟨l, x, mp, us', pa', pc', g1, g2, rfl, rfl⟩
  refine l_tell rfl ?_
  repeat' first | refine wk ?_ | refine wc ?_ ?_ <;> intro h <;> try omega | fail
  exact b_ret [vaC V K.cc s T K.d (.pointer (some ⟨t, 0, none⟩)) (.pointer (some ⟨l, 0, none⟩)) pa' n pc' cur' ⟨su.g + 1, no, cur', lenO K.t, su.o⟩ su0 ka' ks.length kc', own pa' n pc' 182 2 (vsV vs), own ka' ks.length kc' 3 1 (natsV ks), spC s us' 0, stC K (rpg (updP pg no (some b)) (no :: ks)) (256 * (no + 1)) fu, tlC t K.d (lenO K.t), trC T K.cc s, A, lnC l T x t, ixC x K.d mp su.o, amap mp kInt []] rfl (Ent.pick xpkd) ⟨l, x, mp, no, b, us', ks, pa', pc', ka', kc', n1, n2, n3, hks, hkl, g1, by omega, rfl, rfl⟩
 ·refine d_eff rfl ?_ d_stop
  refine o_alloc rfl rfl fun r5 => ?_
  repeat' first | refine wk ?_ | refine wc ?_ ?_ <;> intro h <;> try omega | fail
  refine c_call (s_vready A V T s tk t K hK' pg sl (fu + 64 + 256 * K.n * n) us vs (.pointer none) pa pn pc cur su nx ka kn kc a n c cur' su.o hA hl hn1 hn2 ho hg hu ht hcost) rfl xpkd rfl rfl ?_
  rintro v S ⟨no, b, n1, n2, n3, rfl, rfl⟩
  refine l_tell rfl ?_
  repeat' first | refine wk ?_ | refine wc ?_ ?_ <;> intro h <;> try omega | fail
  have hupd : ∀ v ∈ vs, v.r ≠ 0 → ∃ ps, updP pg no (some b) v.r = some (lfB v.r ps) ∧ LfOk ps := fun v hvv h0 => by
   obtain ⟨h1, ps, h2, h3⟩ := hv v hvv h0
   refine ⟨ps, ?_, h3⟩
   unfold updP
   rw [if_neg (fun e => n3 (by rw [← e]; exact h1))]; exact h2
  refine t_draw (id := 4) (.eval 0 true (.eval 1 true (.eval 2 true (.eval 3 true (.eval 4 false (.eval 5 true (.eval 6 false (.eff 7 [] (.eval 8 true (.eval 9 true (.eval 10 true (.eff 11 [] (.eff 12 [] .fin .stop) .stop)))) .stop)))))))) rfl (by kernel_rfl) ?_
  repeat' first | refine wk ?_ | refine wc ?_ ?_ <;> intro h <;> try omega | fail
  refine c_call (s_census A T s K hK' (updP pg no (some b)) (256 * (no + 1)) (fu + 64) a n c vs hA hl (by omega) ho hupd) rfl xpkd rfl rfl ?_
  rintro v S ⟨ka', kc', ks, hks, hkl, rfl, rfl⟩
  refine l_tell rfl ?_
  have hkus : ∀ k ∈ ks, k ∈ us := fun k hk => by
   obtain ⟨h0, v, hvv, rfl⟩ := (hks k).1 hk
   exact (hv v hvv h0).1
  have hk1 : ∀ k ∈ ks, 1 ≤ k := fun k hk => by
   obtain ⟨h0, _⟩ := (hks k).1 hk
   omega
  repeat' first | refine wk ?_ | refine wc ?_ ?_ <;> intro h <;> try omega | fail
  refine c_call (s_vcount0 A V T s (tk + 1) K.n t K hK' (updP pg no (some b)) (256 * (no + 1)) fu (no :: us) ks vs pa pn pc cur su nx ⟨su.g + 1, no, cur', lenO K.t, su.o⟩ ka ka' kn kc kc' a n c hA (by omega) ⟨by show 1 ≤ su.g + 1; omega, by show su.g + 1 ≤ _; omega, n1, by show no < _; omega, hc, htl, hot⟩ (by omega) (by simp; omega) (fun k hk => by
   rcases List.mem_cons.1 hk with h | hk
   ·omega
   ·exact hb k hk) (by omega) (by omega) (fun k hk => by
   rcases List.mem_cons.1 hk with h | hk
   ·rw [h]; exact ⟨n1, by show no < 1048576; omega⟩
   ·have := hb k (hkus k hk); exact ⟨hk1 k hk, by omega⟩)) rfl xpkd rfl rfl ?_
  rintro v S ⟨l, x, mp, us', pa', pc', g1, g2, rfl, rfl⟩
  refine l_tell rfl ?_
  repeat' first | refine wk ?_ | refine wc ?_ ?_ <;> intro h <;> try omega | fail
  exact b_ret [vaC V K.cc s T K.d (.pointer (some ⟨t, 0, none⟩)) (.pointer (some ⟨l, 0, none⟩)) pa' n pc' cur' ⟨su.g + 1, no, cur', lenO K.t, su.o⟩ su0 ka' ks.length kc', own pa' n pc' 182 2 (vsV vs), own ka' ks.length kc' 3 1 (natsV ks), spC s us' 0, stC K (rpg (updP pg no (some b)) (no :: ks)) (256 * (no + 1)) fu, tlC t K.d (lenO K.t), trC T K.cc s, A, lnC l T x t, ixC x K.d mp su.o, amap mp kInt []] rfl (Ent.pick xpkd) ⟨l, x, mp, no, b, us', ks, pa', pc', ka', kc', n1, n2, n3, hks, hkl, g1, by omega, rfl, rfl⟩
end Go.Ox
end
