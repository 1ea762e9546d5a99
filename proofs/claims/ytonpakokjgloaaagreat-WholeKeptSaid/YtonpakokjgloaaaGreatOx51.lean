/- WholeKept, part 51. No condition. -/
import Derived.Test.YtonpakokjgloaaaGreatOx50
set_option linter.all false
section
set_option maxRecDepth 100000
set_option maxHeartbeats 3200000
namespace Go.Ox
open Go Go.Proofs
def awE : Pc := ⟨0, 0, 6, -1⟩
theorem awE_ok : LfOk [awE] := by
 refine ⟨by decide, by decide, fun p hp => ?_, by decide⟩
 rw [List.mem_singleton.1 hp]
 unfold awE Pc.ok
 decide
section
variable (q : Nat) (xo xg xr xc xt xi xz st wv js : Value) (body sum : Nat) (K : SK) (hK : K.ok) (pg : Nat → Option (List Nat)) (sl fu : Nat)
variable (V T s tk t : Nat) (us : List Nat) (lv : Value) (pa : Option Addr) (pn pc cur : Nat) (su nx : Su) (ka : Option Addr) (kn kc : Nat) (tb tc lb lc LB LC : Nat) (mk ln : Value)
include hK
theorem s_svRescue (hu : us.length + 2 ≤ K.n) (htk : tk ≤ 1000000000) :
  Spec Tryz.prog 169 [.pointer (some ⟨q, 0, none⟩)] [jbC q K.d xo xg xr xc xt xi xz st wv js body sum [.pointer (some ⟨V, 0, none⟩), .slice (some ⟨tb, 0, none⟩) 2 tc, .slice (some ⟨LB, 0, none⟩) 1 LC, .slice none 0 0, mk, ln], own (some ⟨tb, 0, none⟩) 2 tc 85 3 awLV, own (some ⟨lb, 0, none⟩) 2 lc 85 3 awLV, own (some ⟨LB, 0, none⟩) 1 LC 201 1 [[.slice (some ⟨lb, 0, none⟩) 2 lc]], vaC V K.cc s T K.d (.pointer (some ⟨t, 0, none⟩)) lv pa pn pc cur su nx ka kn kc, tlC t K.d 2, trC T K.cc s, spC s us tk, stC K pg sl (fu + 256 * K.n)]
   (fun v S => ∃ no vb vc, 1 ≤ no ∧ no ≤ us.length + 1 ∧ no ∉ us ∧ v = .tuple #[] ∧ S = [jbC q K.d xo xg xr xc xt xi xz st wv js body sum [.pointer (some ⟨V, 0, none⟩), .slice (some ⟨tb, 0, none⟩) 2 tc, .slice (some ⟨LB, 0, none⟩) 1 LC, .slice (some ⟨vb, 0, none⟩) 1 vc, mk, ln], own (some ⟨vb, 0, none⟩) 1 vc 182 2 (vsV [Vn.mk no 6]), own (some ⟨tb, 0, none⟩) 2 tc 85 3 awLV, vaC V K.cc s T K.d (.pointer (some ⟨t, 0, none⟩)) lv pa pn pc cur su nx ka kn kc, tlC t K.d 2, trC T K.cc s, spC s (no :: us) (tk + 1), stC K (updP pg no (some (lfB no [awE]))) sl fu]) := by
 refine spec_of Tryz.func169 rfl Tryz.results169 Tryz.ntmps169 rfl ?_
 repeat' first | refine t_draw (id := 0) (.eval 0 true (.eval 1 true (.eval 2 true (.eval 3 false (.eval 4 true (.eval 5 true (.eval 6 true (.eval 7 false (.eff 8 [] (.eval 9 true (.eval 10 true (.eval 11 true (.eff 12 [] (.eff 13 [] .fin .stop) .stop)))) .stop))))))))) rfl (by kernel_rfl) ?_ | refine wk ?_ | refine wc ?_ ?_ <;> intro h <;> try omega | fail
 refine c_call (s_rbRescue tb tc lb lc LB LC) rfl xpkd rfl rfl ?_
 rintro v S ⟨rfl, rfl⟩
 refine l_tell rfl ?_
 repeat' first | refine wk ?_ | refine wc ?_ ?_ <;> intro h <;> try omega | fail
 refine c_call s_must rfl .nil rfl rfl ?_
 rintro v S ⟨rfl, rfl⟩
 refine l_tell rfl ?_
 repeat' first | refine wk ?_ | refine wc ?_ ?_ <;> intro h <;> try omega | fail
 refine c_call (s_vtail V K.cc s T K.d _ lv pa pn pc cur su nx ka kn kc) rfl xpkd rfl rfl ?_
 rintro v S ⟨rfl, rfl⟩
 refine l_tell rfl ?_
 repeat' first | refine wk ?_ | refine wc ?_ ?_ <;> intro h <;> try omega | fail
 refine c_call (s_tlLen t K.d 2) rfl xpkd rfl rfl ?_
 rintro v S ⟨rfl, rfl⟩
 refine l_tell rfl ?_
 repeat' first | refine t_rounds 3 (rnd_succ ?_) | refine rnd_succ ?_ | refine pt_exit ?_ | refine pb_exit ?_ | refine wk ?_ | refine wc ?_ ?_ <;> intro h <;> try omega | refine l_qs (by (apply c_loadOA; exact rfl; (repeat (first | exact CAt.here | apply CAt.there)); exact rfl; exact rfl; exact rfl)) rfl ?_ | refine d_qs rfl (by (apply c_loadOA; exact rfl; (repeat (first | exact CAt.here | apply CAt.there)); exact rfl; exact rfl; exact rfl)) rfl ?_ | refine d_gqs rfl rfl (by (apply c_loadOA; exact rfl; (repeat (first | exact CAt.here | apply CAt.there)); exact rfl; exact rfl; exact rfl)) rfl ?_ | refine l_qs (by (apply c_loadO; exact rfl; (repeat (first | exact CAt.here | apply CAt.there)); exact rfl; exact rfl; exact rfl)) rfl ?_ | refine d_qs rfl (by (apply c_loadO; exact rfl; (repeat (first | exact CAt.here | apply CAt.there)); exact rfl; exact rfl; exact rfl)) rfl ?_ | refine d_gqs rfl rfl (by (apply c_loadO; exact rfl; (repeat (first | exact CAt.here | apply CAt.there)); exact rfl; exact rfl; exact rfl)) rfl ?_ | (refine n_eff ?_ ?_; · (repeat first | refine wre ?_ | refine r_cons rfl (by first | (apply c_loadOA; exact rfl; (repeat (first | exact CAt.here | apply CAt.there)); exact rfl; exact rfl; exact rfl) | (apply c_loadO; exact rfl; (repeat (first | exact CAt.here | apply CAt.there)); exact rfl; exact rfl; exact rfl) | fail) rfl ?_ | refine r_gcons rfl rfl (by first | (apply c_loadOA; exact rfl; (repeat (first | exact CAt.here | apply CAt.there)); exact rfl; exact rfl; exact rfl) | (apply c_loadO; exact rfl; (repeat (first | exact CAt.here | apply CAt.there)); exact rfl; exact rfl; exact rfl) | fail) rfl ?_ | exact r_nil | fail)) | fail
 refine c_call (s_rbMove tb tc lb lc) rfl xpkd rfl rfl ?_
 rintro v S ⟨mb, mc, rfl, rfl⟩
 refine l_tell rfl ?_
 repeat' first | refine wk ?_ | refine wc ?_ ?_ <;> intro h <;> try omega | fail
 refine c_call s_must rfl .nil rfl rfl ?_
 rintro v S ⟨rfl, rfl⟩
 refine l_tell rfl ?_
 repeat' first | refine t_rounds 3 (rnd_succ ?_) | refine rnd_succ ?_ | refine wb fun _ => ?_ | refine o_buildSlice rfl rfl rfl rfl rfl rfl rfl rfl rfl rfl rfl rfl fun _ => ?_ | refine pt_exit ?_ | refine pb_exit ?_ | refine wk ?_ | refine wc ?_ ?_ <;> intro h <;> try omega | refine l_qs (by (apply c_loadOA; exact rfl; (repeat (first | exact CAt.here | apply CAt.there)); exact rfl; exact rfl; exact rfl)) rfl ?_ | refine d_qs rfl (by (apply c_loadOA; exact rfl; (repeat (first | exact CAt.here | apply CAt.there)); exact rfl; exact rfl; exact rfl)) rfl ?_ | refine d_gqs rfl rfl (by (apply c_loadOA; exact rfl; (repeat (first | exact CAt.here | apply CAt.there)); exact rfl; exact rfl; exact rfl)) rfl ?_ | refine l_qs (by (apply c_loadO; exact rfl; (repeat (first | exact CAt.here | apply CAt.there)); exact rfl; exact rfl; exact rfl)) rfl ?_ | refine d_qs rfl (by (apply c_loadO; exact rfl; (repeat (first | exact CAt.here | apply CAt.there)); exact rfl; exact rfl; exact rfl)) rfl ?_ | refine d_gqs rfl rfl (by (apply c_loadO; exact rfl; (repeat (first | exact CAt.here | apply CAt.there)); exact rfl; exact rfl; exact rfl)) rfl ?_ | (refine n_eff ?_ ?_; · (repeat first | refine wre ?_ | refine r_cons rfl (by first | (apply c_loadOA; exact rfl; (repeat (first | exact CAt.here | apply CAt.there)); exact rfl; exact rfl; exact rfl) | (apply c_loadO; exact rfl; (repeat (first | exact CAt.here | apply CAt.there)); exact rfl; exact rfl; exact rfl) | fail) rfl ?_ | refine r_gcons rfl rfl (by first | (apply c_loadOA; exact rfl; (repeat (first | exact CAt.here | apply CAt.there)); exact rfl; exact rfl; exact rfl) | (apply c_loadO; exact rfl; (repeat (first | exact CAt.here | apply CAt.there)); exact rfl; exact rfl; exact rfl) | fail) rfl ?_ | exact r_nil | fail)) | fail
 refine c_appendN rfl rfl (own_rds xfnd) (by omega) rfl rfl rfl rfl rfl (by decide) (by omega) rfl fun eb ec => ?_
 repeat' first | refine t_rounds 3 (rnd_succ ?_) | refine rnd_succ ?_ | refine wb fun _ => ?_ | refine o_buildSlice rfl rfl rfl rfl rfl rfl rfl rfl rfl rfl rfl rfl fun _ => ?_ | refine pt_exit ?_ | refine pb_exit ?_ | refine wk ?_ | refine wc ?_ ?_ <;> intro h <;> try omega | refine l_qs (by (apply c_loadOA; exact rfl; (repeat (first | exact CAt.here | apply CAt.there)); exact rfl; exact rfl; exact rfl)) rfl ?_ | refine d_qs rfl (by (apply c_loadOA; exact rfl; (repeat (first | exact CAt.here | apply CAt.there)); exact rfl; exact rfl; exact rfl)) rfl ?_ | refine d_gqs rfl rfl (by (apply c_loadOA; exact rfl; (repeat (first | exact CAt.here | apply CAt.there)); exact rfl; exact rfl; exact rfl)) rfl ?_ | refine l_qs (by (apply c_loadO; exact rfl; (repeat (first | exact CAt.here | apply CAt.there)); exact rfl; exact rfl; exact rfl)) rfl ?_ | refine d_qs rfl (by (apply c_loadO; exact rfl; (repeat (first | exact CAt.here | apply CAt.there)); exact rfl; exact rfl; exact rfl)) rfl ?_ | refine d_gqs rfl rfl (by (apply c_loadO; exact rfl; (repeat (first | exact CAt.here | apply CAt.there)); exact rfl; exact rfl; exact rfl)) rfl ?_ | (refine n_eff ?_ ?_; · (repeat first | refine wre ?_ | refine r_cons rfl (by first | (apply c_loadOA; exact rfl; (repeat (first | exact CAt.here | apply CAt.there)); exact rfl; exact rfl; exact rfl) | (apply c_loadO; exact rfl; (repeat (first | exact CAt.here | apply CAt.there)); exact rfl; exact rfl; exact rfl) | fail) rfl ?_ | refine r_gcons rfl rfl (by first | (apply c_loadOA; exact rfl; (repeat (first | exact CAt.here | apply CAt.there)); exact rfl; exact rfl; exact rfl) | (apply c_loadO; exact rfl; (repeat (first | exact CAt.here | apply CAt.there)); exact rfl; exact rfl; exact rfl) | fail) rfl ?_ | exact r_nil | fail)) | fail
 refine c_call (s_vtree V K.cc s T K.d _ lv pa pn pc cur su nx ka kn kc) rfl xpkd rfl rfl ?_
 rintro v S ⟨rfl, rfl⟩
 refine l_tell rfl ?_
 repeat' first | refine wk ?_ | refine wc ?_ ?_ <;> intro h <;> try omega | fail
 refine c_call (s_tbuild (own (some ⟨eb, 0, none⟩) 1 ec 88 4 (pcs [awE])) T s tk us K hK pg sl fu (some ⟨eb, 0, none⟩) ec awE (Rds.own 0 rfl) awE_ok hu htk) rfl xpkd rfl rfl ?_
 rintro v S ⟨no, h1, h2, h3, rfl, rfl⟩
 refine l_tell rfl ?_
 repeat' first | refine wk ?_ | refine wc ?_ ?_ <;> intro h <;> try omega | fail
 refine c_call s_must rfl .nil rfl rfl ?_
 rintro v S ⟨rfl, rfl⟩
 refine l_tell rfl ?_
 repeat' first | refine o_buildSlice rfl rfl rfl rfl rfl rfl rfl rfl rfl rfl rfl rfl fun _ => ?_ | refine wk ?_ | refine wc ?_ ?_ <;> intro h <;> try omega | fail
 refine c_appendN rfl rfl (own_rds xfnd) (by omega) rfl rfl rfl rfl rfl (by decide) (by omega) rfl fun vb vc => ?_
 repeat' first | refine t_rounds 3 (rnd_succ ?_) | refine rnd_succ ?_ | refine pt_exit ?_ | refine pb_exit ?_ | refine wk ?_ | refine wc ?_ ?_ <;> intro h <;> try omega | fail
 exact b_end [jbC q K.d xo xg xr xc xt xi xz st wv js body sum [.pointer (some ⟨V, 0, none⟩), .slice (some ⟨tb, 0, none⟩) 2 tc, .slice (some ⟨LB, 0, none⟩) 1 LC, .slice (some ⟨vb, 0, none⟩) 1 vc, mk, ln], own (some ⟨vb, 0, none⟩) 1 vc 182 2 (vsV [Vn.mk no 6]), own (some ⟨tb, 0, none⟩) 2 tc 85 3 awLV, vaC V K.cc s T K.d (.pointer (some ⟨t, 0, none⟩)) lv pa pn pc cur su nx ka kn kc, tlC t K.d 2, trC T K.cc s, spC s (no :: us) (tk + 1), stC K (updP pg no (some (lfB no [awE]))) sl fu] rfl (Ent.pick xpkd) ⟨no, vb, vc, h1, h2, h3, rfl, rfl⟩
end
end Go.Ox
end
section
set_option maxRecDepth 100000
set_option maxHeartbeats 3200000
namespace Go.Ox
open Go Go.Proofs
section
variable (q : Nat) (xo xg xr xc xt xi xz st wv js : Value) (body sum : Nat) (K : SK) (hb : K.base) (pg : Nat → Option (List Nat)) (sl fu : Nat)
variable (V T s tk t : Nat) (us : List Nat) (lv : Value) (pa : Option Addr) (pn pc : Nat) (sg sr sc sT : Nat) (nx : Su) (ka : Option Addr) (kn kc : Nat) (tb tc lb lc LB LC : Nat) (mk ln : Value)
include hb
theorem s_svPrepare (hu : us.length + 3 ≤ K.n) (htk : tk ≤ 1000000) (hg : sg < 1000000) (hjs : js = .slice none 0 0) (hcost : 256 * K.n * K.cap ≤ 10000000) (hj : K.j = none) (ht : lenO K.t = 2) (ho : lenO K.o = 7) :
  Spec Tryz.prog 114 [.pointer (some ⟨q, 0, none⟩)] [jbC q K.d xo xg xr xc xt xi xz st wv js body sum [.pointer (some ⟨V, 0, none⟩), .slice (some ⟨tb, 0, none⟩) 2 tc, .slice (some ⟨LB, 0, none⟩) 1 LC, .slice none 0 0, mk, ln], own (some ⟨tb, 0, none⟩) 2 tc 85 3 awLV, own (some ⟨lb, 0, none⟩) 2 lc 85 3 awLV, own (some ⟨LB, 0, none⟩) 1 LC 201 1 [[.slice (some ⟨lb, 0, none⟩) 2 lc]], vaC V K.cc s T K.d (.pointer (some ⟨t, 0, none⟩)) lv pa pn pc 0 (Su.mk sg sr sc sT 7) nx ka kn kc, tlC t K.d 2, trC T K.cc s, spC s us tk, stC K pg sl (fu + 256 + 10000000 + 256 * K.n + 256 * K.n)]
   (fun v S => ∃ no vw vc no2 b gb gc ob oc pb pc2 jb sum, 1 ≤ no ∧ no ≤ us.length + 1 ∧ 1 ≤ no2 ∧ no2 ≤ us.length + 2 ∧ no2 ≠ no ∧ jb.length = 256 ∧ sum < 4294967296 ∧ 1 ≤ gc ∧ v = .tuple #[] ∧ S = [awJ q K.d (sg + 1) no2 0 gb gc sum [.pointer (some ⟨V, 0, none⟩), .slice (some ⟨tb, 0, none⟩) 2 tc, .slice (some ⟨LB, 0, none⟩) 1 LC, .slice (some ⟨vw, 0, none⟩) 1 vc, mk, ln], own (some ⟨vw, 0, none⟩) 1 vc 182 2 (vsV [Vn.mk no 6]), own (some ⟨gb, 0, none⟩) 1 gc 269 1 [[.slice (some ⟨ob, 0, none⟩) 1 1]], own (some ⟨ob, 0, none⟩) 1 oc 276 2 [[.int .i64 0, .slice (some ⟨pb, 0, none⟩) 2 pc2]], own (some ⟨pb, 0, none⟩) 2 pc2 85 3 awLV, vaC V K.cc s T K.d (.pointer (some ⟨t, 0, none⟩)) lv pa pn pc 0 (Su.mk sg sr sc sT 7) (Su.mk (sg + 1) no2 0 2 6) ka kn kc, trC T K.cc s, spC s (no2 :: no :: us) (tk + 1 + 1), stC (K.put .j jb) (updP (updP pg no (some (lfB no [awE]))) no2 (some b)) (256 * (no2 + 1)) fu]) := by
 have hK : K.ok := hb.ok (by rw [hj]; show _ + _ + 0 ≤ _; omega)
 subst hjs
 refine spec_of Tryz.func114 rfl Tryz.results114 Tryz.ntmps114 rfl ?_
 repeat' first | refine wk ?_ | refine wc ?_ ?_ <;> intro h <;> try omega | fail
 refine c_call (s_vsuper V K.cc s T K.d _ lv pa pn pc 0 (Su.mk sg sr sc sT 7) nx ka kn kc) rfl xpkd rfl rfl ?_
 rintro v S ⟨rfl, rfl⟩
 refine l_tell rfl ?_
 repeat' first | refine wk ?_ | refine wc ?_ ?_ <;> intro h <;> try omega | fail
 refine c_call (s_svRescue q xo xg xr xc xt xi xz st wv (.slice none 0 0) body sum K hK pg sl (fu + 256 + 10000000 + 256 * K.n) V T s tk t us lv pa pn pc 0 (Su.mk sg sr sc sT 7) nx ka kn kc tb tc lb lc LB LC mk ln (by omega) (by omega)) rfl xpkd rfl rfl ?_
 rintro v S ⟨no, vw, vc, h1, h2, h3, rfl, rfl⟩
 refine l_tell rfl ?_
 repeat' first | refine wk ?_ | refine wc ?_ ?_ <;> intro h <;> try omega | fail
 refine c_call (s_mvMake tb tc) rfl xpkd rfl rfl ?_
 rintro v S ⟨gb, gc, ob, oc, pb, pc2, rfl, rfl⟩
 refine l_tell rfl ?_
 refine l_fact (own_leC (a := some ⟨gb, 0, none⟩) (n := 1) xfnd) fun hgc => ?_
 repeat' first | refine wk ?_ | refine wc ?_ ?_ <;> intro h <;> try omega | fail
 refine o_alloc rfl rfl fun pl => ?_
 repeat' first | refine wk ?_ | refine wc ?_ ?_ <;> intro h <;> try omega | fail
 refine c_call s_must rfl .nil rfl rfl ?_
 rintro v S ⟨rfl, rfl⟩
 refine l_tell rfl ?_
 have hn := s_vnext (own (some ⟨vw, 0, none⟩) 1 vc 182 2 (vsV [Vn.mk no 6])) V T s (tk + 1) t K hK (updP pg no (some (lfB no [awE]))) sl (fu + 256) (no :: us) [Vn.mk no 6] lv pa pn pc 0 (Su.mk sg sr sc sT 7) nx ka kn kc (some ⟨vw, 0, none⟩) 1 vc 6 (Rds.own 0 rfl) rfl (by omega) (by omega) (fun v hv => by rw [List.mem_singleton.1 hv]; exact ⟨by show no < 1048576; have := hb.2.2.2.1; omega, by show 6 ≤ _; omega, by show no = 0 ↔ 6 = 0; omega⟩) (by omega) (by show sg < _; omega) (by simp only [List.length_cons]; omega) (by omega) hcost
 rw [ht] at hn
 repeat' first | refine wk ?_ | refine wc ?_ ?_ <;> intro h <;> try omega | fail
 refine t_mid (fun x : Nat × List Nat × Nat => [(0, .pointer (some ⟨q, 0, none⟩)), (2, .int .i64 7), (3, .pointer (some ⟨pl, 0, none⟩)), (4, .int .i64 0), (5, .pointer (some ⟨x.2.2, 0, none⟩))]) (fun x => [cellsAt x.2.2 109 (Su.mk (sg + 1) x.1 0 2 6).cells, cellsAt pl 195 [.int .i64 6, .slice none 0 0, .slice (some ⟨gb, 0, none⟩) 1 gc], jbC q K.d xo xg xr xc xt xi xz st wv (.slice none 0 0) body sum [.pointer (some ⟨V, 0, none⟩), .slice (some ⟨tb, 0, none⟩) 2 tc, .slice (some ⟨LB, 0, none⟩) 1 LC, .slice (some ⟨vw, 0, none⟩) 1 vc, mk, ln], own (some ⟨vw, 0, none⟩) 1 vc 182 2 (vsV [Vn.mk no 6]), own (some ⟨gb, 0, none⟩) 1 gc 269 1 [[.slice (some ⟨ob, 0, none⟩) 1 1]], own (some ⟨ob, 0, none⟩) 1 oc 276 2 [[.int .i64 0, .slice (some ⟨pb, 0, none⟩) 2 pc2]], own (some ⟨pb, 0, none⟩) 2 pc2 85 3 awLV, vaC V K.cc s T K.d (.pointer (some ⟨t, 0, none⟩)) lv pa pn pc 0 (Su.mk sg sr sc sT 7) (Su.mk (sg + 1) x.1 0 2 6) ka kn kc, trC T K.cc s, spC s (x.1 :: no :: us) (tk + 1 + 1), stC K (updP (updP pg no (some (lfB no [awE]))) x.1 (some x.2.1)) (256 * (x.1 + 1)) (fu + 256)]) (fun x => 1 ≤ x.1 ∧ x.1 ≤ (no :: us).length + 1 ∧ x.1 ∉ no :: us) ?_ ?_
 ·refine t_draw (id := 4) (.eval 0 true (.eval 1 true (.eval 2 true (.eval 3 false (.eval 4 true (.eval 5 true (.eval 6 true (.eval 7 false (.eval 8 true (.eval 9 false (.eff 10 [] (.eval 11 true (.eval 12 true (.eval 13 true (.eff 14 [3, 7, 9] (.eff 15 [] (.eff 16 [] .fin .stop) .stop) .stop)))) (.eff 14 [3, 7, 9] (.eff 10 [] (.eval 11 true (.eval 12 true (.eval 13 true (.eff 15 [] (.eff 16 [] .fin .stop) .stop)))) .stop) .stop)))))))))))) rfl (by kernel_rfl) ?_
  repeat' first | exact d_stop | refine d_eff rfl ?_ ?_ | refine wb fun _ => ?_ | refine wk ?_ | refine wc ?_ ?_ <;> intro h <;> try omega | (refine c_call hn rfl xpkd rfl rfl ?_; rintro v S ⟨no2, b, h4, h5, h6, rfl, rfl⟩; refine l_tell rfl ?_) | exact ⟨rfl, (no2, b, _), ⟨h4, h5, h6⟩, xlss, Ent.pick xpkd⟩ | fail
 rintro ⟨no2, b, t5⟩ ⟨h4, h5, h6⟩
 simp only [] at h4 h5 h6 ⊢
 repeat' first | refine wk ?_ | refine wc ?_ ?_ <;> intro h <;> try omega | fail
 refine c_call s_must rfl .nil rfl rfl ?_
 rintro v S ⟨rfl, rfl⟩
 refine l_tell rfl ?_
 have hn2 : no2 ≤ us.length + 2 := by simpa using h5
 have hne : no2 ≠ no := fun e => h6 (by rw [e]; exact List.mem_cons_self ..)
 have hbn := hb.2.2.2.1
 have hs : (Su.mk (sg + 1) no2 0 2 6).ok := ⟨by show 1 ≤ sg + 1; omega, by show sg + 1 ≤ _; omega, h4, by show no2 < 1048576; omega, by show 0 < 16; omega, by show 2 ≤ _; omega, by show 6 ≤ _; omega⟩
 repeat' first | refine wb fun _ => ?_ | refine t_rounds 3 (rnd_succ ?_) | refine rnd_succ ?_ | refine pt_exit ?_ | refine pb_exit ?_ | refine wk ?_ | refine wc ?_ ?_ <;> intro h <;> try omega | refine l_qs (by (apply c_loadOA; exact rfl; (repeat (first | exact CAt.here | apply CAt.there)); exact rfl; exact rfl; exact rfl)) rfl ?_ | refine d_qs rfl (by (apply c_loadOA; exact rfl; (repeat (first | exact CAt.here | apply CAt.there)); exact rfl; exact rfl; exact rfl)) rfl ?_ | refine d_gqs rfl rfl (by (apply c_loadOA; exact rfl; (repeat (first | exact CAt.here | apply CAt.there)); exact rfl; exact rfl; exact rfl)) rfl ?_ | refine l_qs (by (apply c_loadO; exact rfl; (repeat (first | exact CAt.here | apply CAt.there)); exact rfl; exact rfl; exact rfl)) rfl ?_ | refine d_qs rfl (by (apply c_loadO; exact rfl; (repeat (first | exact CAt.here | apply CAt.there)); exact rfl; exact rfl; exact rfl)) rfl ?_ | refine d_gqs rfl rfl (by (apply c_loadO; exact rfl; (repeat (first | exact CAt.here | apply CAt.there)); exact rfl; exact rfl; exact rfl)) rfl ?_ | (refine n_eff ?_ ?_; · (repeat first | refine wre ?_ | refine r_cons rfl (by first | (apply c_loadOA; exact rfl; (repeat (first | exact CAt.here | apply CAt.there)); exact rfl; exact rfl; exact rfl) | (apply c_loadO; exact rfl; (repeat (first | exact CAt.here | apply CAt.there)); exact rfl; exact rfl; exact rfl) | fail) rfl ?_ | refine r_gcons rfl rfl (by first | (apply c_loadOA; exact rfl; (repeat (first | exact CAt.here | apply CAt.there)); exact rfl; exact rfl; exact rfl) | (apply c_loadO; exact rfl; (repeat (first | exact CAt.here | apply CAt.there)); exact rfl; exact rfl; exact rfl) | fail) rfl ?_ | exact r_nil | fail)) | fail
 refine c_call (s_svSize K _ (256 * (no2 + 1)) (fu + 256) .o (fun h => by cases h)) rfl xpkd rfl rfl ?_
 rintro v S ⟨rfl, rfl⟩
 rw [show lenO (K.get .o) = 7 from ho]
 refine l_tell rfl ?_
 repeat' first | refine wk ?_ | refine wc ?_ ?_ <;> intro h <;> try omega | fail
 refine c_call (s_rPack (sg + 1) no2 0 gb gc ob oc pb pc2 hs) rfl xpkd rfl rfl ?_
 rintro v S ⟨ba, bc, rfl, rfl⟩
 refine l_tell rfl ?_
 repeat' first | refine wk ?_ | refine wc ?_ ?_ <;> intro h <;> try omega | fail
 refine c_call s_must rfl .nil rfl rfl ?_
 rintro v S ⟨rfl, rfl⟩
 refine l_tell rfl ?_
 repeat' first | refine wk ?_ | refine wc ?_ ?_ <;> intro h <;> try omega | fail
 refine l_open by_open xrmv fun bs hbs => ?_
 repeat' first | refine wk ?_ | refine wc ?_ ?_ <;> intro h <;> try omega | fail
 refine o_buildSlice rfl rfl rfl rfl rfl rfl rfl rfl rfl rfl rfl rfl fun pb2 => ?_
 refine c_call (s_crcOf [own ba 98 bc 5 1 (vb bs)] (some ⟨pb2, 0, none⟩) 1 [⟨ba, 98, bc, bs⟩] (by simp) (by
   intro x hx
   rcases List.mem_cons.1 hx with rfl | hx
   ·exact ⟨Rds.own 0 rfl, hbs.1, hbs.2, by show 98 ≤ _; omega⟩
   ·cases hx)) rfl xpkd rfl rfl ?_
 rintro v S ⟨rfl, rfl⟩
 simp only [List.flatMap_cons, List.flatMap_nil, List.append_nil] at *
 have hcl := crcN_lt hbs.2
 generalize crcN bs = cr at *
 refine l_ent (Ent.close (L := [own ba 98 bc 5 1 (vb bs)]) (by_close hbs.1 hbs.2) xpkd) ?_
 repeat' first | refine wb fun _ => ?_ | refine t_rounds 3 (rnd_succ ?_) | refine rnd_succ ?_ | refine pt_exit ?_ | refine pb_exit ?_ | refine wk ?_ | refine wc ?_ ?_ <;> intro h <;> try omega | refine l_qs (by (apply c_loadOA; exact rfl; (repeat (first | exact CAt.here | apply CAt.there)); exact rfl; exact rfl; exact rfl)) rfl ?_ | refine d_qs rfl (by (apply c_loadOA; exact rfl; (repeat (first | exact CAt.here | apply CAt.there)); exact rfl; exact rfl; exact rfl)) rfl ?_ | refine d_gqs rfl rfl (by (apply c_loadOA; exact rfl; (repeat (first | exact CAt.here | apply CAt.there)); exact rfl; exact rfl; exact rfl)) rfl ?_ | refine l_qs (by (apply c_loadO; exact rfl; (repeat (first | exact CAt.here | apply CAt.there)); exact rfl; exact rfl; exact rfl)) rfl ?_ | refine d_qs rfl (by (apply c_loadO; exact rfl; (repeat (first | exact CAt.here | apply CAt.there)); exact rfl; exact rfl; exact rfl)) rfl ?_ | refine d_gqs rfl rfl (by (apply c_loadO; exact rfl; (repeat (first | exact CAt.here | apply CAt.there)); exact rfl; exact rfl; exact rfl)) rfl ?_ | (refine n_eff ?_ ?_; · (repeat first | refine wre ?_ | refine r_cons rfl (by first | (apply c_loadOA; exact rfl; (repeat (first | exact CAt.here | apply CAt.there)); exact rfl; exact rfl; exact rfl) | (apply c_loadO; exact rfl; (repeat (first | exact CAt.here | apply CAt.there)); exact rfl; exact rfl; exact rfl) | fail) rfl ?_ | refine r_gcons rfl rfl (by first | (apply c_loadOA; exact rfl; (repeat (first | exact CAt.here | apply CAt.there)); exact rfl; exact rfl; exact rfl) | (apply c_loadO; exact rfl; (repeat (first | exact CAt.here | apply CAt.there)); exact rfl; exact rfl; exact rfl) | fail) rfl ?_ | exact r_nil | fail)) | fail
 refine o_makeSlice (q := 64) rfl rfl rfl rfl rfl rfl rfl (by show 64 * 1 ≤ _; omega) (by omega) rfl rfl fun zb => ?_
 refine l_ent (ent_by (bs := List.replicate 64 0) rfl (by intro b hb; rw [List.eq_of_mem_replicate hb]; omega) _) ?_
 repeat' first | refine wk ?_ | refine wc ?_ ?_ <;> intro h <;> try omega | fail
 refine c_appendB (n := 64) (m := 98) rfl rfl xrmv xrmv (by omega) rfl fun fa fc => ?_
 repeat' first | refine wk ?_ | refine wc ?_ ?_ <;> intro h <;> try omega | fail
 refine c_call (s_svSlot q _ _ _ _ _ _ _ _ _ _ 98 cr [.pointer (some ⟨V, 0, none⟩), .slice (some ⟨tb, 0, none⟩) 2 tc, .slice (some ⟨LB, 0, none⟩) 1 LC, .slice (some ⟨vw, 0, none⟩) 1 vc, mk, ln] K.d 1 (by omega) (by omega)) rfl xpkd rfl rfl ?_
 rintro v S ⟨rfl, rfl⟩
 rw [show (64 * (1 + (98 + 63) / 64 + 1) : Nat) = 256 from rfl]
 refine l_tell rfl ?_
 repeat' first | refine wk ?_ | refine wc ?_ ?_ <;> intro h <;> try omega | fail
 refine c_appendZB (m := 94) rfl rfl xrmv (by omega) (by omega) rfl fun ga gc' => ?_
 repeat' first | refine wk ?_ | refine wc ?_ ?_ <;> intro h <;> try omega | fail
 refine l_fact (by_le (a := ga) xfnd) fun hga => ?_
 refine l_open by_open xrmv fun bs2 hbs2 => ?_
 have hw4 := s_stwrite (own ga 256 gc' 5 1 (vb bs2)) K hK (updP (updP pg no (some (lfB no [awE]))) no2 (some b)) (256 * (no2 + 1)) fu 0 .j (fun h => by cases h) ga 256 gc' bs2 (Rds.own 0 rfl) hbs2.1 hga (by omega) (by omega) (by have := hb.2.2.1; omega)
 generalize hjb : layB (byO (K.get .j)) 0 bs2 = jb at *
 have hjl : jb.length = 256 := by
  rw [← hjb, show byO (K.get .j) = [] from by show byO K.j = []; rw [hj]; rfl]
  simp [layB]
  exact hbs2.1
 refine c_call hw4 rfl xpkd rfl rfl ?_
 rintro v S ⟨rfl, rfl⟩
 refine l_tell rfl ?_
 repeat' first | refine wk ?_ | refine wc ?_ ?_ <;> intro h <;> try omega | fail
 refine c_call s_must rfl .nil rfl rfl ?_
 rintro v S ⟨rfl, rfl⟩
 refine l_tell rfl ?_
 repeat' first | refine wk ?_ | refine wc ?_ ?_ <;> intro h <;> try omega | fail
 refine c_call (s_stsyncN (K.put .j jb) _ (256 * (no2 + 1)) fu .j (fun h => by cases h) jb rfl (by omega)) rfl xpkd rfl rfl ?_
 rintro v S ⟨rfl, rfl⟩
 refine l_tell rfl ?_
 repeat' first | refine wk ?_ | refine wc ?_ ?_ <;> intro h <;> try omega | fail
 refine c_call s_must rfl .nil rfl rfl ?_
 rintro v S ⟨rfl, rfl⟩
 refine l_tell rfl ?_
 repeat' first | refine wk ?_ | refine wc ?_ ?_ <;> intro h <;> try omega | fail
 exact b_end [awJ q K.d (sg + 1) no2 0 gb gc cr [.pointer (some ⟨V, 0, none⟩), .slice (some ⟨tb, 0, none⟩) 2 tc, .slice (some ⟨LB, 0, none⟩) 1 LC, .slice (some ⟨vw, 0, none⟩) 1 vc, mk, ln], own (some ⟨vw, 0, none⟩) 1 vc 182 2 (vsV [Vn.mk no 6]), own (some ⟨gb, 0, none⟩) 1 gc 269 1 [[.slice (some ⟨ob, 0, none⟩) 1 1]], own (some ⟨ob, 0, none⟩) 1 oc 276 2 [[.int .i64 0, .slice (some ⟨pb, 0, none⟩) 2 pc2]], own (some ⟨pb, 0, none⟩) 2 pc2 85 3 awLV, vaC V K.cc s T K.d (.pointer (some ⟨t, 0, none⟩)) lv pa pn pc 0 (Su.mk sg sr sc sT 7) (Su.mk (sg + 1) no2 0 2 6) ka kn kc, trC T K.cc s, spC s (no2 :: no :: us) (tk + 1 + 1), stC (K.put .j jb) (updP (updP pg no (some (lfB no [awE]))) no2 (some b)) (256 * (no2 + 1)) fu] rfl (Ent.pick xpkd) ⟨no, vw, vc, no2, b, gb, gc, ob, oc, pb, pc2, jb, cr, h1, h2, h4, hn2, hne, hjl, hcl, hgc, rfl, rfl⟩
end
end Go.Ox
end
