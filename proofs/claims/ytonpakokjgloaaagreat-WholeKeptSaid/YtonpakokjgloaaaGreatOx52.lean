/- WholeKept, part 52. No condition. -/
import Derived.Laws.BytesString
import Derived.Test.YtonpakokjgloaaaGreatOx39
import Derived.Test.YtonpakokjgloaaaGreatOx48
import Derived.Test.YtonpakokjgloaaaGreatOx51
set_option linter.all false
section
set_option maxRecDepth 100000
set_option maxHeartbeats 3200000
namespace Go.Ox
open Go Go.Proofs
theorem s_svWhole (tb tc : Nat) : Spec Tryz.prog 113 [.slice (some ⟨tb, 0, none⟩) 2 tc, .int .i64 7] [own (some ⟨tb, 0, none⟩) 2 tc 85 3 awLV] (fun v S => v = .bool false ∧ S = [own (some ⟨tb, 0, none⟩) 2 tc 85 3 awLV]) := by
 refine spec_of Tryz.func113 rfl Tryz.results113 Tryz.ntmps113 rfl ?_
 repeat' first | refine l_guard_un rfl rfl ?_ | refine wk ?_ | refine wc ?_ ?_ <;> intro h <;> try omega | fail
 exact b_ret [own (some ⟨tb, 0, none⟩) 2 tc 85 3 awLV] rfl (Ent.pick xpkd) ⟨rfl, rfl⟩
section
variable (q : Nat) (K : SK) (pg : Nat → Option (List Nat)) (sl fu : Nat)
variable (V T s tk t : Nat) (us : List Nat) (lv : Value) (pa : Option Addr) (pn pc : Nat) (sg sr sc sT : Nat) (nx : Su) (ka : Option Addr) (kn kc : Nat) (mk ln : Value) (root p1 p2 p3 p4 hl hc : Nat)
theorem s_awScraps (su : Su) (hK : K.ok) (hr : pg root = some (lfB root awL)) (hps : LfOk awL) (h1 : 1 ≤ root) (h2 : root < 1048576) :
  Spec Tryz.prog 112 [.pointer (some ⟨V, 0, none⟩), .int .i64 root] [vaC V K.cc s T K.d (.pointer (some ⟨t, 0, none⟩)) lv pa pn pc 0 su nx ka kn kc, trC T K.cc s, stC K pg sl (fu + 256 * K.n)]
   (fun v S => ∃ (b c : Nat), v = .slice (some ⟨b, 0, none⟩) 2 c ∧ S = [own (some ⟨b, 0, none⟩) 2 c 85 3 awLV, vaC V K.cc s T K.d (.pointer (some ⟨t, 0, none⟩)) lv pa pn pc 0 su nx ka kn kc, trC T K.cc s, stC K pg sl fu]) := by
 refine (s_scraps V T s K.d (.pointer (some ⟨t, 0, none⟩)) lv pa pn pc 0 su nx ka kn kc K hK pg sl fu root awL hr hps h1 h2).someB ?_
 rintro v S ⟨a, c, rfl, rfl⟩
 rw [show awL.length = 2 from rfl]
 exact ⟨_, own_at (a := a) .here (by show 1 ≤ 2; omega), fun ⟨b, h⟩ => ⟨_, Ent.refl _, b, c, by rw [h], by rw [h]; rfl⟩⟩
theorem s_svTry1 (hb : K.base) (hr : pg root = some (lfB root awL)) (hps : LfOk awL) (hr1 : 1 ≤ root) (hr2 : root < 1048576) (hu : us.length + 3 ≤ K.n) (htk : tk ≤ 1000000) (hg : sg < 1000000) (hcost : 256 * K.n * K.cap ≤ 10000000) (hj : K.j = none) (ht : lenO K.t = 2) (ho : lenO K.o = 7) :
  Spec Tryz.prog 111 [.pointer (some ⟨p1, 0, none⟩), .pointer (some ⟨p2, 0, none⟩), .pointer (some ⟨p3, 0, none⟩), .pointer (some ⟨p4, 0, none⟩)] [cellsAt p1 103 [.slice (some ⟨hl, 0, none⟩) 1 hc, .int .i64 0], own (some ⟨hl, 0, none⟩) 1 hc 182 2 [[.int .i64 (root : Int), .int .i64 6]], cellsAt p2 192 [.pointer (some ⟨q, 0, none⟩)], cellsAt p3 80 [.pointer (some ⟨V, 0, none⟩)], cellsAt p4 4 [.bool false], jbC q K.d (.int .i64 0) (.int .i64 0) (.int .i64 0) (.int .i64 0) (.int .i64 0) (.int .i64 0) (.int .i64 0) (.slice none 0 0) (.slice none 0 0) (.slice none 0 0) 0 0 [.pointer (some ⟨V, 0, none⟩), .slice none 0 0, .slice none 0 0, .slice none 0 0, mk, ln], vaC V K.cc s T K.d (.pointer (some ⟨t, 0, none⟩)) lv pa pn pc 0 (Su.mk sg sr sc sT 7) nx ka kn kc, tlC t K.d 2, trC T K.cc s, spC s us tk, stC K pg sl (fu + 256 + 10000000 + 256 * K.n + 256 * K.n + 256 * K.n + 256 * K.n)]
   (fun _ S => ∃ no vw vc no2 b gb gc ob oc pb pc2 jb sum tb tc LB LC, 1 ≤ no ∧ no ≤ us.length + 1 ∧ 1 ≤ no2 ∧ no2 ≤ us.length + 2 ∧ no2 ≠ no ∧ jb.length = 256 ∧ sum < 4294967296 ∧ 1 ≤ gc ∧ S = [cellsAt p2 192 [.pointer (some ⟨q, 0, none⟩)], cellsAt p3 80 [.pointer (some ⟨V, 0, none⟩)], cellsAt p4 4 [.bool false], awJ q K.d (sg + 1) no2 0 gb gc sum [.pointer (some ⟨V, 0, none⟩), .slice (some ⟨tb, 0, none⟩) 2 tc, .slice (some ⟨LB, 0, none⟩) 1 LC, .slice (some ⟨vw, 0, none⟩) 1 vc, mk, ln], own (some ⟨vw, 0, none⟩) 1 vc 182 2 (vsV [Vn.mk no 6]), own (some ⟨gb, 0, none⟩) 1 gc 269 1 [[.slice (some ⟨ob, 0, none⟩) 1 1]], own (some ⟨ob, 0, none⟩) 1 oc 276 2 [[.int .i64 0, .slice (some ⟨pb, 0, none⟩) 2 pc2]], own (some ⟨pb, 0, none⟩) 2 pc2 85 3 awLV, vaC V K.cc s T K.d (.pointer (some ⟨t, 0, none⟩)) lv pa pn pc 0 (Su.mk sg sr sc sT 7) (Su.mk (sg + 1) no2 0 2 6) ka kn kc, trC T K.cc s, spC s (no2 :: no :: us) (tk + 1 + 1), stC (K.put .j jb) (updP (updP pg no (some (lfB no [awE]))) no2 (some b)) (256 * (no2 + 1)) fu]) := by
 have hK : K.ok := hb.ok (by rw [hj]; show _ + _ + 0 ≤ _; omega)
 refine spec_of Tryz.func111 rfl Tryz.results111 Tryz.ntmps111 rfl ?_
 repeat' first | refine t_rounds 3 (rnd_succ ?_) | refine rnd_succ ?_ | refine wb fun _ => ?_ | refine t_draw (id := 3) (.eval 0 false (.eval 1 false (.eval 2 true (.eval 3 true (.eval 4 false (.eval 5 false (.eval 6 true (.eval 7 false (.eff 8 [0, 1, 4] (.eff 9 [0, 1, 4, 5, 7] (.eff 10 [0, 1, 5, 7] (.eval 11 true (.eval 12 true (.eff 13 [] .fin .stop))) .stop) .stop) .stop))))))))) rfl (by kernel_rfl) ?_ | refine wk ?_ | refine wc ?_ ?_ <;> intro h <;> try omega | refine l_qs (by (apply c_loadOA; exact rfl; (repeat (first | exact CAt.here | apply CAt.there)); exact rfl; exact rfl; exact rfl)) rfl ?_ | refine d_qs rfl (by (apply c_loadOA; exact rfl; (repeat (first | exact CAt.here | apply CAt.there)); exact rfl; exact rfl; exact rfl)) rfl ?_ | refine d_gqs rfl rfl (by (apply c_loadOA; exact rfl; (repeat (first | exact CAt.here | apply CAt.there)); exact rfl; exact rfl; exact rfl)) rfl ?_ | refine l_qs (by (apply c_loadO; exact rfl; (repeat (first | exact CAt.here | apply CAt.there)); exact rfl; exact rfl; exact rfl)) rfl ?_ | refine d_qs rfl (by (apply c_loadO; exact rfl; (repeat (first | exact CAt.here | apply CAt.there)); exact rfl; exact rfl; exact rfl)) rfl ?_ | refine d_gqs rfl rfl (by (apply c_loadO; exact rfl; (repeat (first | exact CAt.here | apply CAt.there)); exact rfl; exact rfl; exact rfl)) rfl ?_ | (refine n_eff ?_ ?_; · (repeat first | refine wre ?_ | refine r_cons rfl (by first | (apply c_loadOA; exact rfl; (repeat (first | exact CAt.here | apply CAt.there)); exact rfl; exact rfl; exact rfl) | (apply c_loadO; exact rfl; (repeat (first | exact CAt.here | apply CAt.there)); exact rfl; exact rfl; exact rfl) | fail) rfl ?_ | refine r_gcons rfl rfl (by first | (apply c_loadOA; exact rfl; (repeat (first | exact CAt.here | apply CAt.there)); exact rfl; exact rfl; exact rfl) | (apply c_loadO; exact rfl; (repeat (first | exact CAt.here | apply CAt.there)); exact rfl; exact rfl; exact rfl) | fail) rfl ?_ | exact r_nil | fail)) | fail
 refine c_call (s_awScraps K pg sl (fu + 256 + 10000000 + 256 * K.n + 256 * K.n + 256 * K.n) V T s t lv pa pn pc nx ka kn kc root (Su.mk sg sr sc sT 7) hK hr hps hr1 hr2) rfl xpkd rfl rfl ?_
 rintro v S ⟨lb, lc, rfl, rfl⟩
 refine l_tell rfl ?_
 repeat' first | refine o_buildSlice rfl rfl rfl rfl rfl rfl rfl rfl rfl rfl rfl rfl fun _ => ?_ | refine wk ?_ | refine wc ?_ ?_ <;> intro h <;> try omega | fail
 refine c_appendN rfl rfl (own_rds xfnd) (by omega) rfl rfl rfl rfl rfl (by decide) (by omega) rfl fun LB LC => ?_
 repeat' first | refine t_rounds 3 (rnd_succ ?_) | refine rnd_succ ?_ | refine pt_exit ?_ | refine pb_exit ?_ | refine t_draw (id := 5) (.eval 0 false (.eval 1 false (.eval 2 false (.eff 3 [0, 1] (.eval 4 true (.eff 5 [0, 2] (.eval 6 true (.eval 7 true (.eff 8 [] .fin .stop))) .stop)) .stop)))) rfl (by kernel_rfl) ?_ | refine wk ?_ | refine wc ?_ ?_ <;> intro h <;> try omega | fail
 refine c_call (s_pNow (own (some ⟨hl, 0, none⟩) 1 hc 182 2 [[.int .i64 (root : Int), .int .i64 6]]) (some ⟨hl, 0, none⟩) 1 hc 0 [Vn.mk root 6] (Rds.own 0 rfl) rfl (by show 0 < 1; omega) (by omega) (fun v hv => by rw [List.mem_singleton.1 hv]; exact ⟨hr2, by show 6 ≤ _; omega, by show root = 0 ↔ 6 = 0; omega⟩)) rfl xpkd rfl rfl ?_
 rintro v S ⟨rfl, rfl⟩
 refine l_tell rfl ?_
 repeat' first | refine wk ?_ | refine wc ?_ ?_ <;> intro h <;> try omega | fail
 refine c_call (s_awScraps K pg sl (fu + 256 + 10000000 + 256 * K.n + 256 * K.n) V T s t lv pa pn pc nx ka kn kc root (Su.mk sg sr sc sT 7) hK hr hps hr1 hr2) rfl xpkd rfl rfl ?_
 rintro v S ⟨tb, tc, rfl, rfl⟩
 refine l_tell rfl ?_
 repeat' first | refine t_draw (id := 6) (.eval 0 false (.eval 1 true (.eval 2 true (.eval 3 false (.eval 4 false (.eff 5 [0, 3] (.eval 6 true (.eff 7 [0, 4] (.eff 8 [] .fin .stop) .stop)) .stop)))))) rfl (by kernel_rfl) ?_ | refine wk ?_ | refine wc ?_ ?_ <;> intro h <;> try omega | fail
 refine c_call (s_vsuper V K.cc s T K.d _ lv pa pn pc 0 (Su.mk sg sr sc sT 7) nx ka kn kc) rfl xpkd rfl rfl ?_
 rintro v S ⟨rfl, rfl⟩
 refine l_tell rfl ?_
 repeat' first | refine wk ?_ | refine wc ?_ ?_ <;> intro h <;> try omega | fail
 refine c_call (s_svWhole tb tc) rfl xpkd rfl rfl ?_
 rintro v S ⟨rfl, rfl⟩
 refine l_tell rfl ?_
 repeat' first | refine wk ?_ | refine wc ?_ ?_ <;> intro h <;> try omega | fail
 refine c_call (s_svPrepare q _ _ _ _ _ _ _ _ _ _ 0 0 K hb pg sl fu V T s tk t us lv pa pn pc sg sr sc sT nx ka kn kc tb tc lb lc LB LC mk ln hu htk hg rfl hcost hj ht ho) rfl xpkd rfl rfl ?_
 rintro v S ⟨no, vw, vc, no2, b, gb, gc, ob, oc, pb, pc2, jb, sum, h1, h2, h3, h4, h5, h6, h7, h8, rfl, rfl⟩
 refine l_tell rfl ?_
 repeat' first | refine wk ?_ | refine wc ?_ ?_ <;> intro h <;> try omega | fail
 exact b_end [cellsAt p2 192 [.pointer (some ⟨q, 0, none⟩)], cellsAt p3 80 [.pointer (some ⟨V, 0, none⟩)], cellsAt p4 4 [.bool false], awJ q K.d (sg + 1) no2 0 gb gc sum [.pointer (some ⟨V, 0, none⟩), .slice (some ⟨tb, 0, none⟩) 2 tc, .slice (some ⟨LB, 0, none⟩) 1 LC, .slice (some ⟨vw, 0, none⟩) 1 vc, mk, ln], own (some ⟨vw, 0, none⟩) 1 vc 182 2 (vsV [Vn.mk no 6]), own (some ⟨gb, 0, none⟩) 1 gc 269 1 [[.slice (some ⟨ob, 0, none⟩) 1 1]], own (some ⟨ob, 0, none⟩) 1 oc 276 2 [[.int .i64 0, .slice (some ⟨pb, 0, none⟩) 2 pc2]], own (some ⟨pb, 0, none⟩) 2 pc2 85 3 awLV, vaC V K.cc s T K.d (.pointer (some ⟨t, 0, none⟩)) lv pa pn pc 0 (Su.mk sg sr sc sT 7) (Su.mk (sg + 1) no2 0 2 6) ka kn kc, trC T K.cc s, spC s (no2 :: no :: us) (tk + 1 + 1), stC (K.put .j jb) (updP (updP pg no (some (lfB no [awE]))) no2 (some b)) (256 * (no2 + 1)) fu] rfl (Ent.pick xpkd) ⟨no, vw, vc, no2, b, gb, gc, ob, oc, pb, pc2, jb, sum, tb, tc, LB, LC, h1, h2, h3, h4, h5, h6, h7, h8, rfl⟩
end
end Go.Ox
end
section
set_option maxRecDepth 100000
set_option maxHeartbeats 3200000
namespace Go.Ox
open Go Go.Proofs
section
variable (q : Nat) (K : SK) (pg : Nat → Option (List Nat)) (sl fu : Nat)
variable (V T s tk t : Nat) (us : List Nat) (lv : Value) (pa : Option Addr) (pn pc : Nat) (sg : Nat) (su : Su) (ka : Option Addr) (kn kc : Nat) (p2 p3 no no2 gb gc ob oc pb pc2 sum vw vc : Nat) (x1 x2 x3 x5 x6 : Value)
theorem s_svTry2 (hb : K.base) (tb ol jb b : List Nat) (ht : K.t = some tb) (htl : tb.length = 2) (ho : K.o = some ol) (hol : ol.length = 7) (hj : K.j = some jb) (hjl : jb.length = 256) (hsum : sum < 4294967296) (hgc : 1 ≤ gc) (hsl : 64 ≤ sl) (hg : sg < 1000000) (hn0 : 1 ≤ no) (hn1 : no < 1048576) (hn2 : 1 ≤ no2) (hn3 : no2 < 1048576) (hne : no2 ≠ no) (hul : us.length ≤ 1000) (hub : ∀ k ∈ us, k + 1 ≤ 1048576) :
  Spec Tryz.prog 116 [.pointer (some ⟨p2, 0, none⟩), .pointer (some ⟨p3, 0, none⟩)] [cellsAt p2 192 [.pointer (some ⟨q, 0, none⟩)], cellsAt p3 80 [.pointer (some ⟨V, 0, none⟩)], awJ q K.d (sg + 1) no2 0 gb gc sum [x1, x2, x3, .slice (some ⟨vw, 0, none⟩) 1 vc, x5, x6], own (some ⟨vw, 0, none⟩) 1 vc 182 2 (vsV [Vn.mk no 6]), own (some ⟨gb, 0, none⟩) 1 gc 269 1 [[.slice (some ⟨ob, 0, none⟩) 1 1]], own (some ⟨ob, 0, none⟩) 1 oc 276 2 [[.int .i64 0, .slice (some ⟨pb, 0, none⟩) 2 pc2]], own (some ⟨pb, 0, none⟩) 2 pc2 85 3 awLV, vaC V K.cc s T K.d (.pointer (some ⟨t, 0, none⟩)) lv pa pn pc 0 su (Su.mk (sg + 1) no2 0 2 6) ka kn kc, trC T K.cc s, spC s (no2 :: no :: us) tk, stC K (updP (updP pg no (some (lfB no [awE]))) no2 (some b)) sl (fu + 256 * K.n * 1 + 1 + 64 + 1 + 64 + 6 + 64 + 6 + 64)]
   (fun _ S => ∃ pg' jb' lv' pa' pc' ka' kn' kc', S = [vaC V K.cc s T K.d (.pointer (some ⟨t, 0, none⟩)) lv' pa' 1 pc' 0 (Su.mk (sg + 1) no2 0 2 6) su0 ka' kn' kc', own pa' 1 pc' 182 2 (vsV [Vn.mk no 6]), stC ((K.put .o ((tb.drop 0).take 2 ++ (ol.drop 3).take 4)).put .j jb') pg' sl fu]) := by
 have e1 : lenO K.o = 7 := by rw [ho]; exact hol
 have e2 : lenO K.t = 2 := by rw [ht]; exact htl
 have e3 : lenO K.j = 256 := by rw [hj]; exact hjl
 have hX : ((tb.drop 0).take 2 ++ (ol.drop 3).take 4).length = 6 := by rw [List.length_append, List.length_take, List.length_take, List.length_drop, List.length_drop]; omega
 have hs : (Su.mk (sg + 1) no2 0 2 6).ok := ⟨by show 1 ≤ sg + 1; omega, by show sg + 1 ≤ _; omega, hn2, hn3, by show 0 < 16; omega, by show 2 ≤ _; omega, by show 6 ≤ _; omega⟩
 refine spec_of Tryz.func116 rfl Tryz.results116 Tryz.ntmps116 rfl ?_
 repeat' first | refine wk ?_ | refine wc ?_ ?_ <;> intro h <;> try omega | fail
 refine c_call (s_svHead q _ _ _ _ _ _ _ _ _ _ 98 sum _ K hb _ sl (fu + 256 * K.n * 1 + 1 + 64 + 1 + 64 + 6 + 64 + 6) 0 false jb hj (by omega) (by omega) (by omega) (by omega) hsum) rfl xpkd rfl rfl ?_
 rintro v S ⟨h0, hh0, rfl, rfl⟩
 refine l_tell rfl ?_
 generalize hj1 : layB jb 0 h0 = j1 at *
 have hj1l : j1.length = 256 := by rw [← hj1, lay_len (by omega)]; exact hjl
 repeat' first | refine wk ?_ | refine wc ?_ ?_ <;> intro h <;> try omega | fail
 refine c_call (s_svCarry q (sg + 1) no2 0 gb gc ob oc pb pc2 sum _ (K.put .j j1) hb _ sl (fu + 256 * K.n * 1) hsl hs tb ol j1 ht htl ho hol rfl hj1l hsum hgc) rfl xpkd rfl rfl ?_
 rintro v S ⟨jb', rfl, rfl, hjb'⟩
 refine l_tell rfl ?_
 generalize (tb.drop 0).take 2 ++ (ol.drop 3).take 4 = X at *
 repeat' first | refine t_draw (id := 2) (.eval 0 false (.eval 1 false (.eval 2 true (.eval 3 true (.eval 4 true (.eval 5 true (.eval 6 false (.eval 7 false (.eval 8 true (.eval 9 true (.eval 10 false (.eff 11 [1, 7] (.eff 12 [0, 1, 6, 7, 10] .fin .stop) .stop)))))))))))) rfl (by kernel_rfl) ?_ | refine wk ?_ | refine wc ?_ ?_ <;> intro h <;> try omega | fail
 have hK' : ((K.put .o X).put .j jb').ok := SK.base.ok hb (by show X.length + lenO K.t + jb'.length ≤ 4096; omega)
 refine c_call (s_vadoptTop (own (some ⟨vw, 0, none⟩) 1 vc 182 2 (vsV [Vn.mk no 6])) V T s tk 1048576 t ((K.put .o X).put .j jb') hK' (updP (updP pg no (some (lfB no [awE]))) no2 (some b)) sl fu (no2 :: no :: us) [Vn.mk no 6] lv pa pn pc 0 su (Su.mk (sg + 1) no2 0 2 6) ka kn kc (some ⟨vw, 0, none⟩) 1 vc (Rds.own 0 rfl) rfl (by show 0 < 1; omega) (by omega) (fun v hv => by rw [List.mem_singleton.1 hv]; exact ⟨hn1, by show 6 ≤ _; omega, by show no = 0 ↔ 6 = 0; omega⟩) (fun v hv _ => by
   rw [List.mem_singleton.1 hv]
   refine ⟨hn1, [awE], ?_, awE_ok⟩
   show updP (updP pg no (some (lfB no [awE]))) no2 (some b) no = _
   unfold updP
   rw [if_neg (fun e => hne e.symm), if_pos rfl]) (by show 1 ≤ sg + 1; omega) ⟨hn2, hn3⟩ (by show 6 ≤ _; omega) (by simp only [List.length_cons]; omega) (fun k hk => by
   rcases List.mem_cons.1 hk with rfl | hk
   ·omega
   ·rcases List.mem_cons.1 hk with rfl | hk
    ·omega
    ·exact hub k hk) (by omega)) rfl xpkd rfl rfl ?_
 rintro v S ⟨pg', lv', pa', pc', ka', kn', kc', rfl, rfl⟩
 refine l_tell rfl ?_
 repeat' first | refine wk ?_ | refine wc ?_ ?_ <;> intro h <;> try omega | fail
 refine c_call s_must rfl .nil rfl rfl ?_
 rintro v S ⟨rfl, rfl⟩
 refine l_tell rfl ?_
 repeat' first | refine wk ?_ | refine wc ?_ ?_ <;> intro h <;> try omega | fail
 exact b_end [vaC V K.cc s T K.d (.pointer (some ⟨t, 0, none⟩)) lv' pa' 1 pc' 0 (Su.mk (sg + 1) no2 0 2 6) su0 ka' kn' kc', own pa' 1 pc' 182 2 (vsV [Vn.mk no 6]), stC ((K.put .o X).put .j jb') pg' sl fu] rfl (Ent.pick xpkd) ⟨pg', jb', lv', pa', pc', ka', kn', kc', rfl⟩
end
end Go.Ox
end
section
set_option maxRecDepth 100000
set_option maxHeartbeats 3200000
namespace Go.Ox
open Go Go.Proofs
section
variable (K : SK) (pg : Nat → Option (List Nat)) (sl fu : Nat)
variable (V T s tk t : Nat) (us : List Nat) (lv : Value) (pa : Option Addr) (pc : Nat) (sg sr sc sT : Nat) (nx : Su) (ka : Option Addr) (kn kc root : Nat)
theorem s_svSave (hb : K.base) (tb ol : List Nat) (htb : K.t = some tb) (htl : tb.length = 2) (ho : K.o = some ol) (hol : ol.length = 7) (hj : K.j = none) (hr : pg root = some (lfB root awL)) (hps : LfOk awL) (hr1 : 1 ≤ root) (hr2 : root < 1048576) (hu : us.length + 3 ≤ K.n) (hul : us.length ≤ 1000) (hub : ∀ k ∈ us, k + 1 ≤ 1048576) (htk : tk ≤ 1000000) (hg : sg < 1000000) (hcost : 256 * K.n * K.cap ≤ 10000000) :
  Spec Tryz.prog 67 [.pointer (some ⟨K.d, 0, none⟩), .pointer (some ⟨V, 0, none⟩)] [vaC V K.cc s T K.d (.pointer (some ⟨t, 0, none⟩)) lv pa 1 pc 0 (Su.mk sg sr sc sT 7) nx ka kn kc, own pa 1 pc 182 2 (vsV [Vn.mk root 6]), tlC t K.d 2, trC T K.cc s, spC s us tk, stC K pg sl (fu + 256 * K.n * 1 + 1 + 64 + 1 + 64 + 6 + 64 + 6 + 64 + 256 + 10000000 + 256 * K.n + 256 * K.n + 256 * K.n + 256 * K.n)]
   (fun v S => ∃ K' pg' sl' no su' lv' pa' pc' ka' kn' kc', K'.d = K.d ∧ K'.o = some ((tb.drop 0).take 2 ++ (ol.drop 3).take 4) ∧ 1 ≤ no ∧ no < 1048576 ∧ v = .int .i64 0 ∧ S = [vaC V K.cc s T K.d (.pointer (some ⟨t, 0, none⟩)) lv' pa' 1 pc' 0 su' su0 ka' kn' kc', own pa' 1 pc' 182 2 (vsV [Vn.mk no 6]), stC K' pg' sl' fu]) := by
 refine spec_of Tryz.func67 rfl Tryz.results67 Tryz.ntmps67 rfl ?_
 repeat' first | refine wk ?_ | refine wc ?_ ?_ <;> intro h <;> try omega | fail
 refine o_box rfl rfl rfl fun p3 => ?_
 repeat' first | refine wk ?_ | refine wc ?_ ?_ <;> intro h <;> try omega | fail
 refine t_mid (fun x : Nat × Nat × Nat => [(3, .pointer (some ⟨p3, 0, none⟩)), (5, .pointer (some ⟨x.2.1, 0, none⟩)), (4, .int .i64 0)]) (fun x => [cellsAt x.2.1 192 [.pointer (some ⟨x.1, 0, none⟩)], jbC x.1 K.d (.int .i64 0) (.int .i64 0) (.int .i64 0) (.int .i64 0) (.int .i64 0) (.int .i64 0) (.int .i64 0) (.slice none 0 0) (.slice none 0 0) (.slice none 0 0) 0 0 [.pointer (some ⟨V, 0, none⟩), .slice none 0 0, .slice none 0 0, .slice none 0 0, .int .i64 (x.2.2 : Int), .int .i64 2], cellsAt p3 80 [.pointer (some ⟨V, 0, none⟩)], vaC V K.cc s T K.d (.pointer (some ⟨t, 0, none⟩)) lv pa 1 pc 0 (Su.mk sg sr sc sT 7) nx ka kn kc, own pa 1 pc 182 2 (vsV [Vn.mk root 6]), tlC t K.d 2, trC T K.cc s, spC s us tk, stC K pg sl (fu + 256 * K.n * 1 + 1 + 64 + 1 + 64 + 6 + 64 + 6 + 64 + 256 + 10000000 + 256 * K.n + 256 * K.n + 256 * K.n + 256 * K.n)]) (fun _ => True) ?_ ?_
 ·refine t_draw (id := 3) (.eval 0 true (.eval 1 true (.eval 2 false (.eval 3 false (.eval 6 false (.eff 4 [2, 6] (.eff 5 [2, 3, 6] (.eff 7 [2, 3] (.eff 8 [2, 3, 6] (.eval 9 true (.eff 10 [2, 3, 6] (.eff 11 [2, 3, 6] (.eff 12 [] .fin .stop) .stop) (.eff 11 [2, 3, 6] (.eff 10 [2, 3, 6] (.eff 12 [] .fin .stop) .stop) .stop))) (.eff 11 [2, 3, 6] (.eff 8 [2, 3, 6] (.eval 9 true (.eff 10 [2, 3, 6] (.eff 12 [] .fin .stop) .stop)) .stop) .stop)) (.eff 11 [2, 3, 6] (.eff 7 [2, 3] (.eff 8 [2, 3, 6] (.eval 9 true (.eff 10 [2, 3, 6] (.eff 12 [] .fin .stop) .stop)) .stop) .stop) .stop)) (.eff 11 [2, 3, 6] (.eff 5 [2, 3, 6] (.eff 7 [2, 3] (.eff 8 [2, 3, 6] (.eval 9 true (.eff 10 [2, 3, 6] (.eff 12 [] .fin .stop) .stop)) .stop) .stop) .stop) .stop)) (.eff 11 [2, 3, 6] (.eff 4 [2, 6] (.eff 5 [2, 3, 6] (.eff 7 [2, 3] (.eff 8 [2, 3, 6] (.eval 9 true (.eff 10 [2, 3, 6] (.eff 12 [] .fin .stop) .stop)) .stop) .stop) .stop) .stop) .stop))))))) rfl (by kernel_rfl) ?_
  have c1 := s_vspace V K.cc s T K.d (.pointer (some ⟨t, 0, none⟩)) lv pa 1 pc 0 (Su.mk sg sr sc sT 7) nx ka kn kc
  have c2 := s_spMark s tk us
  have c3 := s_vtail V K.cc s T K.d (.pointer (some ⟨t, 0, none⟩)) lv pa 1 pc 0 (Su.mk sg sr sc sT 7) nx ka kn kc
  have c4 := s_tlLen t K.d 2
  repeat' first | exact d_stop | refine d_eff rfl ?_ ?_ | refine wb fun _ => ?_ | refine wk ?_ | refine wc ?_ ?_ <;> intro h <;> try omega | (refine c_call c1 rfl xpkd rfl rfl ?_; rintro v S ⟨rfl, rfl⟩; refine l_tell rfl ?_) | (refine c_call c2 rfl xpkd rfl rfl ?_; rintro v S ⟨tn, rfl, rfl⟩; refine l_tell rfl ?_) | (refine c_call c3 rfl xpkd rfl rfl ?_; rintro v S ⟨rfl, rfl⟩; refine l_tell rfl ?_) | (refine c_call c4 rfl xpkd rfl rfl ?_; rintro v S ⟨rfl, rfl⟩; refine l_tell rfl ?_) | exact ⟨rfl, (_, _, tn), trivial, xlss, Ent.pick xpkd⟩ | fail
 rintro ⟨q, p2, tn⟩ -
 dsimp only
 repeat' first | refine wk ?_ | refine wc ?_ ?_ <;> intro h <;> try omega | fail
 refine c_call (s_vpast V K.cc s T K.d _ lv pa pc 0 [Vn.mk root 6] (Su.mk sg sr sc sT 7) nx ka kn kc (by show 1 ≤ 1000; omega)) rfl xpkd rfl rfl ?_
 rintro v S ⟨ha, hc, rfl, rfl⟩
 refine l_tell rfl ?_
 refine l_fact (own_at (a := ha) .here (by show 1 ≤ 1; omega)) ?_
 rintro ⟨hl, rfl⟩
 repeat' first | refine wk ?_ | refine wc ?_ ?_ <;> intro h <;> try omega | fail
 refine o_alloc rfl rfl fun p1 => ?_
 repeat' first | refine wk ?_ | refine wc ?_ ?_ <;> intro h <;> try omega | fail
 refine o_alloc rfl rfl fun p4 => ?_
 repeat' first | refine wk ?_ | refine wc ?_ ?_ <;> intro h <;> try omega | fail
 have hT1 := s_svTry1 q K pg sl (fu + 256 * K.n * 1 + 1 + 64 + 1 + 64 + 6 + 64 + 6 + 64) V T s tk t us lv pa 1 pc sg sr sc sT nx ka kn kc (.int .i64 (tn : Int)) (.int .i64 2) root p1 p2 p3 p4 hl hc hb hr hps hr1 hr2 hu htk hg hcost hj (by rw [htb]; exact htl) (by rw [ho]; exact hol)
 refine c_call (s_tried 111 [] [.pointer (some ⟨p1, 0, none⟩), .pointer (some ⟨p2, 0, none⟩), .pointer (some ⟨p3, 0, none⟩), .pointer (some ⟨p4, 0, none⟩)] _ _ hT1 rfl) rfl xpkd rfl rfl ?_
 rintro v S ⟨rfl, no, vw, vc, no2, b, gb, gc, ob, oc, pb, pc2, jb, sum, tb', tc', LB, LC, h1, h2, h3, h4, h5, h6, h7, h8, rfl⟩
 refine l_tell rfl ?_
 repeat' first | refine wk ?_ | refine wc ?_ ?_ <;> intro h <;> try omega | fail
 have hbn := hb.2.2.2.1
 have hT2 := s_svTry2 q (K.put .j jb) pg (256 * (no2 + 1)) fu V T s (tk + 1 + 1) t us lv pa 1 pc sg (Su.mk sg sr sc sT 7) ka kn kc p2 p3 no no2 gb gc ob oc pb pc2 sum vw vc (.pointer (some ⟨V, 0, none⟩)) (.slice (some ⟨tb', 0, none⟩) 2 tc') (.slice (some ⟨LB, 0, none⟩) 1 LC) (.int .i64 (tn : Int)) (.int .i64 2) hb tb ol jb b htb htl ho hol rfl h6 h7 h8 (by omega) hg h1 (by omega) h3 (by omega) h5 hul hub
 refine c_call (s_tried 116 [] [.pointer (some ⟨p2, 0, none⟩), .pointer (some ⟨p3, 0, none⟩)] _ _ hT2 rfl) rfl xpkd rfl rfl ?_
 rintro v S ⟨rfl, pg', jb', lv', pa', pc', ka', kn', kc', rfl⟩
 refine l_tell rfl ?_
 repeat' first | refine wk ?_ | refine wc ?_ ?_ <;> intro h <;> try omega | fail
 exact b_ret [vaC V K.cc s T K.d (.pointer (some ⟨t, 0, none⟩)) lv' pa' 1 pc' 0 (Su.mk (sg + 1) no2 0 2 6) su0 ka' kn' kc', own pa' 1 pc' 182 2 (vsV [Vn.mk no 6]), stC (((K.put .j jb).put .o ((tb.drop 0).take 2 ++ (ol.drop 3).take 4)).put .j jb') pg' (256 * (no2 + 1)) fu] rfl (Ent.pick xpkd) ⟨((K.put .j jb).put .o ((tb.drop 0).take 2 ++ (ol.drop 3).take 4)).put .j jb', pg', _, no, _, lv', pa', pc', ka', kn', kc', rfl, rfl, h1, by omega, rfl, rfl⟩
end
end Go.Ox
end
section
set_option maxRecDepth 100000
set_option maxHeartbeats 800000
namespace Go.Ox
open Go Go.Proofs
section
variable {N : Nat} {D : List Deferred} {env : KEnv} {S S' : List Asn}
theorem c_convStr {x : Operand} {t : TypeId} {b n c : Nat} {bs : List Nat} (hx : ev env x = some (.slice (some ⟨b, 0, none⟩) n c)) (hc : CAt S (own (some ⟨b, 0, none⟩) n c 5 1 (vb bs)) (own (some ⟨b, 0, none⟩) n c 5 1 (vb bs)) S') :
  QS Tryz.prog N D env S (.convert 22 9 x) t (.string ((bs.map fun (k : Nat) => (k : Int)).foldl (fun r n => r.push (UInt8.ofNat n.toNat)) ByteArray.empty)) := by
 obtain ⟨i, hi, _⟩ := hc.at
 refine .mk fun G F a w k d pos aft => ?_
 obtain ⟨q1, q2, q3, q4, q5⟩ := own_cells (sat_del hi k.sat)
 have hlen : bs.length = n := by simpa [vb] using q1
 rcases q5 with ⟨h, _⟩ | ⟨b', sp, hb', ql, kp⟩
 ·cases h
 ·cases hb'
  have hwb : w.heap[b]? = some (.cells ((vb bs).flatten ++ sp).toArray 5 (0, 0)) := sat.get (S := [pt b _]) (F := del S i ++ F) (n := 0) kp rfl
  have hl := run_loadCells_list (P := Tryz.prog) w ⟨b, 0, none⟩ (vb bs).flatten (fun q u hq => by
   rw [Addr.add_lit]
   have hlt := (List.getElem?_eq_some_iff.1 hq).1
   simp [World.cell?, hwb, List.getElem?_append_left hlt, hq])
  have hfl : (vb bs).flatten = (bs.map fun (k : Nat) => (k : Int)).map (Value.int .u8) := by rw [vb_flatten, List.map_map]; rfl
  have hfn : (vb bs).flatten.length = n := by rw [vb_flatten, List.length_map]; exact hlen
  rw [hfn] at hl
  rw [hfl] at hl
  have hu : Tryz.prog.underlying 22 = some (.slice 5) := Tryz.underlying22
  have h5 : Tryz.prog.underlying 5 = some (.int .u8) := by kernel_rfl
  have h9 : Tryz.prog.underlying 9 = some .string := by kernel_rfl
  have hr := run_convert_bytes_string (P := Tryz.prog) w 22 9 5 (some ⟨b, 0, none⟩) n c hu h5 h9
  rw [run_bytesToString w ⟨b, 0, none⟩ n c _ hl] at hr
  simp only [execOp, k.env.eval hx]
  simp only [Sem.run_bind, hr, Result.andThen_ok, Sem.run_pure]
end
structure AwS where
 t : Nat
 l : Nat
 x : Nat
 mp : Nat
 no : Nat
 r : Nat
 us : List Nat
 ks : List Nat
 pg : Nat → Option (List Nat)
 pa : Option Addr
 pc : Nat
 ka : Option Addr
 kc : Nat
def awB : List Nat := [111, 110, 101, 10, 116, 119, 111]
def AwS.ok (e : AwS) : Prop := e.pg e.r = some (lfB e.r [Pc.mk 0 0 7 (-1)]) ∧ e.r ∈ e.us ∧ 1 ≤ e.r ∧ e.r ≤ 1 ∧ e.us.length ≤ 2 ∧ (∀ k ∈ e.us, k ≤ 20)
def awK (cc d : Nat) (tl : Option (List Nat)) : SK := ⟨cc, d, 1048576, 4, 64, some awB, tl, none⟩
def AwS.q (e : AwS) (cc s T d : Nat) : VO := ⟨.pointer (some ⟨e.t, 0, none⟩), .pointer (some ⟨e.l, 0, none⟩), e.pa, e.pc, 0, [Vn.mk e.r 7], ⟨1, e.no, 0, 0, 7⟩, su0, e.ka, e.ks.length, e.kc, [own e.ka e.ks.length e.kc 3 1 (natsV e.ks), spC s e.us 0, stC (awK cc d none) e.pg (256 * (e.no + 1)) 500000000, tlC e.t d 0, trC T cc s, lnC e.l T e.x e.t, ixC e.x d e.mp 7, amap e.mp kInt []]⟩
theorem aw_lay (d V cc s T : Nat) :
  Spec Tryz.prog 191 [.pointer (some ⟨V, 0, none⟩)] [vaC V cc s T d (.pointer none) (.pointer none) none 0 0 0 su0 su0 none 0 0, spC s [] 0, stC ⟨cc, d, 1048576, 4, 64, oOf 7 awB, none, none⟩ (fun _ => none) 0 1000000000000, trC T cc s]
   (fun v S => v = .int .i64 0 ∧ ∃ q : VO, q.ok ∧ (∃ e : AwS, e.ok ∧ q = e.q cc s T d) ∧ S = q.L V cc s T d) := by
 have hKok : (awK cc d none).ok := ⟨by show 1 ≤ 4; decide, by show 4 ≤ 100000; decide, by show 1 ≤ 64; decide, by show 64 ≤ 1048576; decide, by show lenO (some awB) + 0 + 0 + 768 * 64 ≤ 1048576; decide, by show 1048576 ≤ 1099511627776; decide⟩
 have h := s_vlay1 V T s (awK cc d none) hKok rfl 7 rfl (by omega) (by omega) (fun _ => none) 0 500000000 (by show 3 ≤ 64; decide) (by show 256 * 64 * 4 ≤ _; decide)
 refine h.conseq ?_ ?_
 ·refine (Ent.pick (Pre := [stC (awK cc d none) (fun _ => none) 0 1000000000000, vaC V cc s T d (.pointer none) (.pointer none) none 0 0 0 su0 su0 none 0 0, spC s [] 0, trC T cc s]) xpkd).trans ?_
  refine (ent_stless 1000000000000 (500000000 + 64 + 256 * 64 * 1 + 10000000 + 256 * 64 + 256 * 64) (by decide) _).trans ?_
  exact Ent.pick xpkd
 ·rintro v S ⟨t, l, x, mp, no, no1, b, us', ks, pa', pc', ka', kc', m1, m2, n1, n2, n3, g1, g2, g3, g4, rfl, rfl⟩
  have hno1 : no1 ∈ ks := (g1 no1).2 ⟨by omega, _, List.mem_singleton_self _, rfl⟩
  have hpg : rpg (updP (updP (fun _ => none) no1 (some (lfB no1 [Pc.mk 0 0 7 (-1)]))) no (some b)) (no :: ks) no1 = some (lfB no1 [Pc.mk 0 0 7 (-1)]) := by
   unfold rpg
   rw [if_pos (List.mem_cons_of_mem _ hno1), updP_ne (fun h => n3 h.symm), updP_eq]
  obtain ⟨e, he⟩ : ∃ e : AwS, e = ⟨t, l, x, mp, no, no1, us', ks, rpg (updP (updP (fun _ => none) no1 (some (lfB no1 [Pc.mk 0 0 7 (-1)]))) no (some b)) (no :: ks), pa', pc', ka', kc'⟩ := ⟨_, rfl⟩
  refine ⟨(e.q cc s T d).L V cc s T d, ?_, rfl, e.q cc s T d, ?_, ⟨e, ?_, rfl⟩, rfl⟩
  ·subst he
   exact Ent.pick xpkd
  ·subst he
   exact ⟨by show 0 < 1; decide, by show 1 ≤ 16; decide, fun v hv => by rw [List.mem_singleton.1 hv]; exact ⟨by show no1 < _; omega, by show 7 ≤ _; omega, by show no1 = 0 ↔ 7 = 0; omega⟩⟩
  ·subst he
   refine ⟨hpg, (g3 no1).2 (List.mem_cons_of_mem _ hno1), m1, m2, g4, fun k hk => ?_⟩
   rcases List.mem_cons.1 ((g3 k).1 hk) with rfl | hk
   ·omega
   ·obtain ⟨q1, v, q2, rfl⟩ := (g1 k).1 hk
    rw [List.mem_singleton.1 q2]; show no1 ≤ 20; omega
end Go.Ox
end
