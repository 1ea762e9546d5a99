/- WholeKept, part 53. No condition. -/
import Derived.Test.YtonpakokjgloaaaGreatOx52
set_option linter.all false
section
set_option maxRecDepth 100000
set_option maxHeartbeats 1600000
namespace Go.Ox
open Go Go.Proofs
section
variable (K : SK) (pg : Nat → Option (List Nat)) (sl fu : Nat)
variable (E V T s tk t most : Nat) (us : List Nat) (lv : Value) (pa : Option Addr) (pc : Nat) (sg sr sc sT : Nat) (nx : Su) (ka : Option Addr) (kn kc root : Nat)
def awC (K : SK) (fu : Nat) : Nat := fu + 256 * K.n * 1 + 1 + 64 + 1 + 64 + 6 + 64 + 6 + 64 + 256 + 10000000 + 256 * K.n + 256 * K.n + 256 * K.n + 256 * K.n
variable (hb : K.base) (tb ol : List Nat) (htb : K.t = some tb) (htl : tb.length = 2) (ho : K.o = some ol) (hol : ol.length = 7) (hj : K.j = none) (hr : pg root = some (lfB root awL)) (hps : LfOk awL) (hr1 : 1 ≤ root) (hr2 : root < 1048576) (hu : us.length + 3 ≤ K.n) (hul : us.length ≤ 1000) (hub : ∀ k ∈ us, k + 1 ≤ 1048576) (htk : tk ≤ 1000000) (hg : sg < 1000000) (hcost : 256 * K.n * K.cap ≤ 10000000)
include hb htb htl ho hol hj hr hps hr1 hr2 hu hul hub htk hg hcost
theorem s_ed66 (xb bytes : Nat) :
  Spec Tryz.prog 66 [.pointer (some ⟨xb, 0, none⟩)] [cellsAt xb 31 [.pointer (some ⟨E, 0, none⟩)], edC E V K.d most root bytes false, vaC V K.cc s T K.d (.pointer (some ⟨t, 0, none⟩)) lv pa 1 pc 0 (Su.mk sg sr sc sT 7) nx ka kn kc, own pa 1 pc 182 2 (vsV [Vn.mk root 6]), tlC t K.d 2, trC T K.cc s, spC s us tk, stC K pg sl (awC K fu)]
   (fun v S => ∃ K' pg' sl' no su' lv' pa' pc' ka' kn' kc', K'.d = K.d ∧ K'.o = some ((tb.drop 0).take 2 ++ (ol.drop 3).take 4) ∧ 1 ≤ no ∧ no < 1048576 ∧ v = .int .i64 0 ∧ S = [edC E V K.d most root bytes false, vaC V K.cc s T K.d (.pointer (some ⟨t, 0, none⟩)) lv' pa' 1 pc' 0 su' su0 ka' kn' kc', own pa' 1 pc' 182 2 (vsV [Vn.mk no 6]), stC K' pg' sl' fu]) := by
 refine spec_of Tryz.func66 rfl Tryz.results66 Tryz.ntmps66 rfl ?_
 repeat' first | refine t_draw (id := 1) (.eval 0 false (.eval 1 true (.eval 2 true (.eval 3 false (.eval 4 false (.eval 5 true (.eval 6 true (.eval 7 false (.eff 8 [0, 4] (.eff 9 [] .fin .stop) .stop))))))))) rfl (by kernel_rfl) ?_ | refine wk ?_ | refine wc ?_ ?_ <;> intro h <;> try omega | fail
 refine c_call (s_svSave K pg sl fu V T s tk t us lv pa pc sg sr sc sT nx ka kn kc root hb tb ol htb htl ho hol hj hr hps hr1 hr2 hu hul hub htk hg hcost) rfl xpkd rfl rfl ?_
 rintro v S ⟨K', pg', sl', no, su', lv', pa', pc', ka', kn', kc', h1, h2, h3, h4, rfl, rfl⟩
 refine l_tell rfl ?_
 repeat' first | refine wk ?_ | refine wc ?_ ?_ <;> intro h <;> try omega | fail
 exact b_ret [edC E V K.d most root bytes false, vaC V K.cc s T K.d (.pointer (some ⟨t, 0, none⟩)) lv' pa' 1 pc' 0 su' su0 ka' kn' kc', own pa' 1 pc' 182 2 (vsV [Vn.mk no 6]), stC K' pg' sl' fu] rfl (Ent.pick xpkd) ⟨K', pg', sl', no, su', lv', pa', pc', ka', kn', kc', h1, h2, h3, h4, rfl, rfl⟩
theorem s_edTurn (xb bytes : Nat) :
  Spec Tryz.prog 65 [.pointer (some ⟨E, 0, none⟩), .func (.func 66) #[] #[.pointer (some ⟨xb, 0, none⟩)]] [cellsAt xb 31 [.pointer (some ⟨E, 0, none⟩)], edC E V K.d most root bytes false, vaC V K.cc s T K.d (.pointer (some ⟨t, 0, none⟩)) lv pa 1 pc 0 (Su.mk sg sr sc sT 7) nx ka kn kc, own pa 1 pc 182 2 (vsV [Vn.mk root 6]), tlC t K.d 2, trC T K.cc s, spC s us tk, stC K pg sl (awC K fu)]
   (fun v S => ∃ K' pg' sl', K'.d = K.d ∧ K'.o = some ((tb.drop 0).take 2 ++ (ol.drop 3).take 4) ∧ v = .int .i64 0 ∧ S = [stC K' pg' sl' fu]) := by
 refine spec_of Tryz.func65 rfl Tryz.results65 Tryz.ntmps65 rfl ?_
 repeat' first | refine wk ?_ | refine wc ?_ ?_ <;> intro h <;> try omega | fail
 refine c_call (s_eopen E V K.d most root bytes false) rfl xpkd rfl rfl ?_
 rintro v S ⟨rfl, rfl⟩
 refine l_tell rfl ?_
 repeat' first | refine wk ?_ | refine wc ?_ ?_ <;> intro h <;> try omega | fail
 refine c_callV (us := []) (vs := []) (cs := [.pointer (some ⟨xb, 0, none⟩)]) rfl (s_ed66 K pg sl fu E V T s tk t most us lv pa pc sg sr sc sT nx ka kn kc root hb tb ol htb htl ho hol hj hr hps hr1 hr2 hu hul hub htk hg hcost xb bytes) rfl xpkd rfl rfl ?_
 rintro v S ⟨K', pg', sl', no, su', lv', pa', pc', ka', kn', kc', h1, h2, h3, h4, rfl, rfl⟩
 refine l_tell rfl ?_
 repeat' first | refine wk ?_ | refine wc ?_ ?_ <;> intro h <;> try omega | fail
 refine c_call (s_estand E V K.d most root bytes K.cc s T K.d false (.pointer (some ⟨t, 0, none⟩)) lv' pa' pc' 0 [Vn.mk no 6] su' su0 ka' kn' kc' (by show 1 ≤ 16; omega) (by show 0 < 1; omega) (fun v hv => by rw [List.mem_singleton.1 hv]; exact ⟨h4, by show 6 ≤ _; omega, by show no = 0 ↔ 6 = 0; omega⟩)) rfl xpkd rfl rfl ?_
 rintro v S ⟨rfl, rfl⟩
 refine l_tell rfl ?_
 repeat' first | refine wk ?_ | refine wc ?_ ?_ <;> intro h <;> try omega | fail
 exact b_ret [stC K' pg' sl' fu] rfl (Ent.pick xpkd) ⟨K', pg', sl', h1, h2, rfl, rfl⟩
theorem s_edSave (bytes : Nat) :
  Spec Tryz.prog 22 [.pointer (some ⟨E, 0, none⟩)] [edC E V K.d most root bytes false, vaC V K.cc s T K.d (.pointer (some ⟨t, 0, none⟩)) lv pa 1 pc 0 (Su.mk sg sr sc sT 7) nx ka kn kc, own pa 1 pc 182 2 (vsV [Vn.mk root 6]), tlC t K.d 2, trC T K.cc s, spC s us tk, stC K pg sl (awC K fu)]
   (fun v S => ∃ K' pg' sl', K'.d = K.d ∧ K'.o = some ((tb.drop 0).take 2 ++ (ol.drop 3).take 4) ∧ v = .int .i64 0 ∧ S = [stC K' pg' sl' fu]) := by
 refine spec_of Tryz.func22 rfl Tryz.results22 Tryz.ntmps22 rfl ?_
 repeat' first | refine wk ?_ | refine wc ?_ ?_ <;> intro h <;> try omega | fail
 refine o_box rfl rfl rfl fun xb => ?_
 repeat' first | refine wk ?_ | refine wc ?_ ?_ <;> intro h <;> try omega | fail
 refine c_call (s_edTurn K pg sl fu E V T s tk t most us lv pa pc sg sr sc sT nx ka kn kc root hb tb ol htb htl ho hol hj hr hps hr1 hr2 hu hul hub htk hg hcost xb bytes) rfl xpkd rfl rfl ?_
 rintro v S ⟨K', pg', sl', h1, h2, rfl, rfl⟩
 refine l_tell rfl ?_
 repeat' first | refine wk ?_ | refine wc ?_ ?_ <;> intro h <;> try omega | fail
 exact b_ret [stC K' pg' sl' fu] rfl (Ent.pick xpkd) ⟨K', pg', sl', h1, h2, rfl, rfl⟩
end
theorem s_topFile (K : SK) (pg : Nat → Option (List Nat)) (sl fu d : Nat) (hd : K.d = d) (bs : List Nat) (ho : K.o = some bs) (hl : bs.length ≤ 4096) (h1 : 1 ≤ bs.length) :
  Spec Tryz.prog 23 [.pointer (some ⟨d, 0, none⟩), .string (Nm.name .o)] [stC K pg sl fu] (fun v S => ∃ b c, v = .slice (some ⟨b, 0, none⟩) bs.length c ∧ S = [own (some ⟨b, 0, none⟩) bs.length c 5 1 (vb bs)]) := by
 subst hd
 refine spec_of Tryz.func23 rfl Tryz.results23 Tryz.ntmps23 rfl ?_
 repeat' first | refine wk ?_ | refine wc ?_ ?_ <;> intro h <;> try omega | fail
 refine c_call (s_stsizeN K pg sl fu .o (fun h => by cases h)) rfl xpkd rfl rfl ?_
 rintro v S ⟨rfl, rfl⟩
 rw [show szI (K.get .o) = ((bs.length : Nat) : Int) from by show szI K.o = _; rw [ho]; rfl]
 refine l_tell rfl ?_
 repeat' first | refine l_qp (by exact q_maxE (show max (0 : Int) ((bs.length : Nat) : Int) = ((bs.length : Nat) : Int) from by omega) rfl rfl) rfl ?_ | refine d_qp rfl (by exact q_maxE (show max (0 : Int) ((bs.length : Nat) : Int) = ((bs.length : Nat) : Int) from by omega) rfl rfl) rfl ?_ | refine d_gqp rfl rfl (by exact q_maxE (show max (0 : Int) ((bs.length : Nat) : Int) = ((bs.length : Nat) : Int) from by omega) rfl rfl) rfl ?_ | refine wk ?_ | refine wc ?_ ?_ <;> intro h <;> try omega | fail
 refine c_call (s_stread K pg sl fu .o (fun h => by cases h) bs ho 0 bs.length (by omega) (by omega)) rfl xpkd rfl rfl ?_
 rintro v S ⟨a, c, rfl, rfl⟩
 rw [List.drop_zero, List.take_length]
 refine l_tell rfl ?_
 refine l_fact (own_at (a := a) xfnd h1) ?_
 rintro ⟨b, rfl⟩
 repeat' first | refine wk ?_ | refine wc ?_ ?_ <;> intro h <;> try omega | fail
 exact b_ret [own (some ⟨b, 0, none⟩) bs.length c 5 1 (vb bs)] rfl (Ent.pick xpkd) ⟨b, c, rfl, rfl⟩
end Go.Ox
end
section
set_option maxRecDepth 100000
set_option maxHeartbeats 3200000
namespace Go.Ox
open Go Go.Proofs
theorem awE1_ok : (Pc.mk 1 0 2 1).ok := ⟨.inr rfl, by show 0 + 2 ≤ _; omega, by show 1 ≤ 2; omega, by show 2 ≤ _; omega, by show (-1 : Int) ≤ 1; omega, by show (1 : Int) ≤ ((2 : Nat) : Int); omega, .inl rfl⟩
theorem awE0_ok : (Pc.mk 0 0 7 (-1)).ok := ⟨.inl rfl, by show 0 + 7 ≤ _; omega, by show 1 ≤ 7; omega, by show 7 ≤ _; omega, by show (-1 : Int) ≤ -1; omega, by show (-1 : Int) ≤ ((7 : Nat) : Int); omega, .inr rfl⟩
theorem awE2_ok : (Pc.mk 0 3 4 (-1)).ok := ⟨.inl rfl, by show 3 + 4 ≤ _; omega, by show 1 ≤ 4; omega, by show 4 ≤ _; omega, by show (-1 : Int) ≤ -1; omega, by show (-1 : Int) ≤ ((4 : Nat) : Int); omega, .inr rfl⟩
theorem awL_lf : LfOk awL := ⟨by decide, by decide, fun p hp => by
 rcases List.mem_cons.1 hp with rfl | hp
 ·exact awE1_ok
 ·rw [List.mem_singleton.1 hp]; exact awE2_ok, by decide⟩
theorem aw_cut : [Pc.mk 1 0 2 1, cutP (Pc.mk 0 0 7 (-1)) (3 - sumN [])] = awL := rfl
theorem awK_ok (cc d : Nat) (tl : Option (List Nat)) (h : lenO tl ≤ 100) : (awK cc d tl).ok := ⟨by show 1 ≤ 4; decide, by show 4 ≤ 100000; decide, by show 1 ≤ 64; decide, by show 64 ≤ 1048576; decide, by show 7 + lenO tl + 0 + 768 * 64 ≤ 1048576; omega, by show 1048576 ≤ 1099511627776; decide⟩
theorem awK_base (cc d : Nat) (tl : Option (List Nat)) : (awK cc d tl).base := ⟨by show 1 ≤ 4; decide, by show 4 ≤ 100000; decide, by show 1 ≤ 64; decide, by show 64 ≤ 1048576; decide, by show 4096 + 768 * 64 ≤ 1048576; decide, by show 1048576 ≤ 1099511627776; decide⟩
theorem aw_sp (T s cc d F sl : Nat) (us : List Nat) (pg : Nat → Option (List Nat)) (r : Nat) (e1 : pg r = some (lfB r [Pc.mk 0 0 7 (-1)])) (e3 : 1 ≤ r) (e4 : r ≤ 1) (e5 : us.length ≤ 2) (a : Option Addr) (c : Nat) :
  Spec Tryz.prog 48 [.pointer (some ⟨T, 0, none⟩), .int .i64 (r : Int), .int .i64 0, .int .i64 ((3 : Nat) : Int), .slice a 1 c] [trC T (awK cc d none).cc s, stC (awK cc d none) pg sl (F + 256 * (awK cc d none).n + 256 * (awK cc d none).n + 256 * (awK cc d none).n + 256 * (awK cc d none).n), spC s us 0, own a 1 c 88 4 (pcs [Pc.mk 1 0 2 1])]
   (fun v S => ∃ no', 1 ≤ no' ∧ no' ≤ us.length + 1 ∧ no' ∉ us ∧ v = .tuple #[.int .i64 (no' : Nat), .int .i64 0] ∧ S = [trC T (awK cc d none).cc s, stC (awK cc d none) (updP pg no' (some (lfB no' awL))) sl F, spC s (no' :: us) (0 + 1), own a 1 c 88 4 (pcs [Pc.mk 1 0 2 1])]) := by
 have hK1 := awK_ok cc d none (by show 0 ≤ 100; omega)
 have h := s_tspliceC (own a 1 c 88 4 (pcs [Pc.mk 1 0 2 1])) T s 0 us (awK cc d none) hK1 pg sl F a c (Pc.mk 1 0 2 1) (Rds.own 0 rfl) awE1_ok r 3 [] (Pc.mk 0 0 7 (-1)) e1 (lf1 awE0_ok) e3 (by omega) (by omega) (by decide) (by decide) (by rw [aw_cut]; exact awL_lf) (.inl (by decide)) (by decide) (by show us.length + 2 ≤ 64; omega) (by omega)
 rw [aw_cut] at h
 exact h
theorem aw_rep (pb2 E V T s cc d F t l no r pc kn kc : Nat) (ks us : List Nat) (pg : Nat → Option (List Nat)) (pa ka : Option Addr) (e1 : pg r = some (lfB r [Pc.mk 0 0 7 (-1)])) (e3 : 1 ≤ r) (e4 : r ≤ 1) (e5 : us.length ≤ 2) :
  Spec Tryz.prog 12 [.pointer (some ⟨E, 0, none⟩), .int .i64 0, .int .i64 ((3 : Nat) : Int), .slice (some ⟨pb2, 0, none⟩) 2 2] [edC E V d 1 r 7 false, vaC V cc s T d (.pointer (some ⟨t, 0, none⟩)) (.pointer (some ⟨l, 0, none⟩)) pa 1 pc 0 ⟨1, no, 0, 0, 7⟩ su0 ka kn kc, trC T cc s, stC (awK cc d none) pg (256 * (no + 1)) (F + 2 + 256 * (awK cc d none).n + 256 * (awK cc d none).n + 256 * (awK cc d none).n + 256 * (awK cc d none).n), spC s us 0, tlC t d 0, frzC pb2 [49, 10]]
   (fun v S => ∃ no', 1 ≤ no' ∧ no' ≤ us.length + 1 ∧ no' ∉ us ∧ v = .int .i64 0 ∧ S = [edC E V d 1 no' 6 true, vaC V cc s T d (.pointer (some ⟨t, 0, none⟩)) (.pointer (some ⟨l, 0, none⟩)) pa 1 pc 0 ⟨1, no, 0, 0, 7⟩ su0 ka kn kc, trC T cc s, stC (awK cc d (some [49, 10])) (updP pg no' (some (lfB no' awL))) (256 * (no + 1)) F, spC s (no' :: us) 1, tlC t d 2]) := by
 have hK1 := awK_ok cc d none (by show 0 ≤ 100; omega)
 have hrep := s_ereplace (frzC pb2 [49, 10]) E V 1 r 7 s T 0 t 3 2 false (awK cc d none) hK1 pg (256 * (no + 1)) F us (.pointer (some ⟨l, 0, none⟩)) pa 1 pc 0 ⟨1, no, 0, 0, 7⟩ su0 ka kn kc (some ⟨pb2, 0, none⟩) 2 [49, 10] (frz_rds pb2 [49, 10]) rfl (by omega) (by omega) (by show 0 + 2 ≤ 512 * 64; omega) (by show 0 + 2 ≤ _; omega) (by omega) (by omega) (by omega) (by omega) awL (fun a c => aw_sp T s cc d (F + 2) (256 * (no + 1)) us pg r e1 e3 e4 e5 a c)
 refine hrep.conseq (Ent.refl _) ?_
 rintro v S ⟨no', h1, h2, h3, rfl, rfl⟩
 exact ⟨[edC E V d 1 no' 6 true, vaC V cc s T d (.pointer (some ⟨t, 0, none⟩)) (.pointer (some ⟨l, 0, none⟩)) pa 1 pc 0 ⟨1, no, 0, 0, 7⟩ su0 ka kn kc, trC T cc s, stC (awK cc d (some [49, 10])) (updP pg no' (some (lfB no' awL))) (256 * (no + 1)) F, spC s (no' :: us) 1, tlC t d 2], Ent.pick xpkd, no', h1, h2, h3, rfl, rfl⟩
theorem aw_com (E V T s cc d F t l no r pc kn kc root sl : Nat) (us : List Nat) (pg : Nat → Option (List Nat)) (pa ka : Option Addr) (e1 : pg r = some (lfB r [Pc.mk 0 0 7 (-1)])) (e2 : r ∈ us) (e3 : 1 ≤ r) (e4 : r ≤ 1) (e5 : us.length ≤ 2) (e6 : ∀ k ∈ us, k ≤ 20) (e7 : pg root = some (lfB root awL)) (h1 : 1 ≤ root) (h2 : root ≤ us.length + 1) (h3 : root ∉ us) :
  Spec Tryz.prog 14 [.pointer (some ⟨E, 0, none⟩)] [edC E V d 1 root 6 true, vaC V cc s T d (.pointer (some ⟨t, 0, none⟩)) (.pointer (some ⟨l, 0, none⟩)) pa 1 pc 0 ⟨1, no, 0, 0, 7⟩ su0 ka kn kc, own pa 1 pc 182 2 (vsV [Vn.mk r 7]), spC s (root :: us) 1, stC (awK cc d (some [49, 10])) pg sl (F + 30000000 + 256 * (awK cc d (some [49, 10])).n + 256 * (awK cc d (some [49, 10])).n), tlC t d 2, trC T cc s]
   (fun v S => ∃ no2 us' pg' sl' pa' pc' ka' kn' kc', pg' root = some (lfB root awL) ∧ us'.length ≤ 2 ∧ (∀ k ∈ us', k ≤ 30) ∧ v = .int .i64 0 ∧ S = [edC E V d 1 root 6 false, vaC V cc s T d (.pointer (some ⟨t, 0, none⟩)) (.pointer (some ⟨l, 0, none⟩)) pa' 1 pc' 0 ⟨2, no2, 0, 2, 7⟩ su0 ka' kn' kc', own pa' 1 pc' 182 2 (vsV [Vn.mk root 6]), spC s us' 0, stC (awK cc d (some [49, 10])) pg' sl' F, tlC t d 2, trC T cc s]) := by
 have hK := awK_ok cc d (some [49, 10]) (by show 2 ≤ 100; omega)
 have hcm := s_ecommit E V T s 1 t l root 6 1 (awK cc d (some [49, 10])) hK pg sl F (root :: us) [Vn.mk r 7] awL pa pc 0 ⟨1, no, 0, 0, 7⟩ su0 ka kn kc e7 awL_lf h1 (List.mem_cons_self ..) (by omega) (by omega) (by show 0 < 1; omega) (by show 1 ≤ 16; omega) (fun v hv => by rw [List.mem_singleton.1 hv]; exact ⟨by show r < _; omega, by show 7 ≤ _; omega, by show r = 0 ↔ 7 = 0; omega⟩) (fun v hv _ => by rw [List.mem_singleton.1 hv]; exact ⟨List.mem_cons_of_mem _ e2, _, e1, lf1 awE0_ok⟩) (by show 1 < 1099511627776; omega) (by show 7 ≤ _; omega) (by show 2 ≤ _; omega) (by show us.length + 1 + 2 ≤ 64; omega) (by show us.length + 1 ≤ _; omega) (fun k hk => by
  rcases List.mem_cons.1 hk with rfl | hk
  ·show k + 1 ≤ 64; omega
  ·have := e6 k hk; show k + 1 ≤ 64; omega) (by omega) (by show 256 * 64 * 4 ≤ _; omega) (by show 256 * 64 * 16 ≤ _; omega)
 refine hcm.conseq (Ent.refl _) ?_
 rintro v S ⟨no2, b, us', ks, pa', pc', ka', kc', n1, n2, n3, g1, g2, g3, g4, rfl, rfl⟩
 have g1' : ∀ k, k ∈ ks ↔ vRoots [Vn.mk root 6] k := g1
 have hrk : root ∈ ks := (g1' root).2 ⟨by omega, _, List.mem_singleton_self _, rfl⟩
 have n2' : no2 ≤ us.length + 1 + 1 := n2
 refine ⟨[edC E V d 1 root 6 false, vaC V cc s T d (.pointer (some ⟨t, 0, none⟩)) (.pointer (some ⟨l, 0, none⟩)) pa' 1 pc' 0 ⟨2, no2, 0, 2, 7⟩ su0 ka' ks.length kc', own pa' 1 pc' 182 2 (vsV [Vn.mk root 6]), spC s us' 0, stC (awK cc d (some [49, 10])) (rpg (updP pg no2 (some b)) (no2 :: ks)) (256 * (no2 + 1)) F, tlC t d 2, trC T cc s], Ent.pick xpkd, no2, us', _, _, pa', pc', ka', _, kc', ?_, g4, ?_, rfl, rfl⟩
 ·unfold rpg
  rw [if_pos (List.mem_cons_of_mem _ hrk), updP_ne (fun h => n3 (by rw [← h]; exact List.mem_cons_self ..))]
  exact e7
 ·intro k hk
  rcases List.mem_cons.1 ((g3 k).1 hk) with rfl | hk
  ·omega
  ·obtain ⟨q1, v, q2, rfl⟩ := (g1' k).1 hk
   rw [List.mem_singleton.1 q2]; show root ≤ 30; omega
theorem s_awake : Spec Tryz.prog 9 [] [] (fun v S => v = .bool true ∧ S = []) := by
 refine spec_of Tryz.func9 rfl Tryz.results9 Tryz.ntmps9 rfl ?_
 refine t_same [] rfl ?_
 repeat' first | refine wk ?_ | refine wc ?_ ?_ <;> intro h <;> try omega | fail
 refine o_buildSlice rfl rfl rfl rfl rfl rfl rfl rfl rfl rfl rfl rfl fun pb => ?_
 refine o_convSl (bs := awB) rfl xhol rfl ?_
 refine l_tell rfl ?_
 repeat' first | refine wk ?_ | refine wc ?_ ?_ <;> intro h <;> try omega | fail
 refine c_call (s_wlay (frzC pb awB) (some ⟨pb, 0, none⟩) 7 7 0 0 1048576 64 awB (frz_rds pb awB) rfl (by omega) (by decide) (by decide) (fun d V cc s T q => ∃ e : AwS, e.ok ∧ q = e.q cc s T d) (fun d V cc s T => aw_lay d V cc s T)) rfl xpkd rfl rfl ?_
 rintro v S ⟨w, sv, d, E, V, cc, s, T, q, hq, ⟨e, ⟨e1, e2, e3, e4, e5, e6⟩, rfl⟩, rfl, rfl⟩
 refine l_same [wC w (some ⟨pb, 0, none⟩) 7 7 0 0 d (.pointer (some ⟨E, 0, none⟩)) sv, edC E V d 1 e.r 7 false, vaC V cc s T d (.pointer (some ⟨e.t, 0, none⟩)) (.pointer (some ⟨e.l, 0, none⟩)) e.pa 1 e.pc 0 ⟨1, e.no, 0, 0, 7⟩ su0 e.ka e.ks.length e.kc, own e.pa 1 e.pc 182 2 (vsV [Vn.mk e.r 7]), own e.ka e.ks.length e.kc 3 1 (natsV e.ks), spC s e.us 0, stC (awK cc d none) e.pg (256 * (e.no + 1)) 500000000, tlC e.t d 0, trC T cc s, lnC e.l T e.x e.t, ixC e.x d e.mp 7, amap e.mp kInt []] rfl ?_
 obtain ⟨F0, hF0⟩ : ∃ F : Nat, F = 500000000 := ⟨_, rfl⟩
 obtain ⟨F1, hF1⟩ : ∃ F : Nat, F = 400000000 := ⟨_, rfl⟩
 obtain ⟨F2, hF2⟩ : ∃ F : Nat, F = 300000000 := ⟨_, rfl⟩
 obtain ⟨F3, hF3⟩ : ∃ F : Nat, F = 200000000 := ⟨_, rfl⟩
 obtain ⟨F4, hF4⟩ : ∃ F : Nat, F = 100000000 := ⟨_, rfl⟩
 rw [← hF0]
 repeat' first | refine wk ?_ | refine wc ?_ ?_ <;> intro h <;> try omega | fail
 refine o_buildSlice rfl rfl rfl rfl rfl rfl rfl rfl rfl rfl rfl rfl fun pb2 => ?_
 refine l_guard_yes rfl ?_
 refine o_convSl (bs := [49, 10]) rfl xhol rfl ?_
 refine l_tell rfl ?_
 repeat' first | refine wk ?_ | refine wc ?_ ?_ <;> intro h <;> try omega | fail
 refine c_call ((aw_rep pb2 E V T s cc d F1 e.t e.l e.no e.r e.pc e.ks.length e.kc e.ks e.us e.pg e.pa e.ka e1 e3 e4 e5).pre ((((ent_stless F0 (F1 + 2 + 256 * (awK cc d none).n + 256 * (awK cc d none).n + 256 * (awK cc d none).n + 256 * (awK cc d none).n) (by rw [hF0, hF1]; show 400000000 + 2 + 256 * 64 + 256 * 64 + 256 * 64 + 256 * 64 ≤ 500000000; decide) _).cons _).cons _).cons _)) rfl xpkd rfl rfl ?_
 rintro v S ⟨no, n1, n2, n3, rfl, rfl⟩
 refine l_tell rfl ?_
 repeat' first | refine wk ?_ | refine wc ?_ ?_ <;> intro h <;> try omega | fail
 have hne : e.r ≠ no := fun h => n3 (by rw [← h]; exact e2)
 refine c_call ((aw_com E V T s cc d F2 e.t e.l e.no e.r e.pc e.ks.length e.kc no (256 * (e.no + 1)) e.us (updP e.pg no (some (lfB no awL))) e.pa e.ka (by rw [updP_ne hne]; exact e1) e2 e3 e4 e5 e6 updP_eq n1 n2 n3).pre (((((ent_stless F1 (F2 + 30000000 + 256 * (awK cc d (some [49, 10])).n + 256 * (awK cc d (some [49, 10])).n) (by rw [hF1, hF2]; show 300000000 + 30000000 + 256 * 64 + 256 * 64 ≤ 400000000; decide) _).cons _).cons _).cons _).cons _)) rfl xpkd rfl rfl ?_
 rintro v S ⟨no2, us', pg', sl', pa', pc', ka', kn', kc', g1, g2, g3, rfl, rfl⟩
 refine l_tell rfl ?_
 repeat' first | refine wk ?_ | refine wc ?_ ?_ <;> intro h <;> try omega | fail
 have hK2 := awK_ok cc d (some [49, 10]) (by show 2 ≤ 100; omega)
 have hno : no < 1048576 := by omega
 have hli := s_eLines e.l T s e.x e.t e.mp 7 0 no (awK cc d (some [49, 10])) hK2 pg' sl' F3 awB rfl (Pc.mk 1 0 2 1) 3 4 g1 awL_lf n1 hno (by decide) (by decide) (by omega) (by omega) (by omega) (by omega) (by decide) (by decide) (by omega) E V 1 6 false (.pointer (some ⟨e.t, 0, none⟩)) pa' 1 pc' 0 ⟨2, no2, 0, 2, 7⟩ su0 ka' kn' kc'
 refine c_call (hli.pre (((((((ent_stless F2 (F3 + 256 * (awK cc d (some [49, 10])).n) (by rw [hF2, hF3]; show 200000000 + 256 * 64 ≤ 300000000; decide) _).cons _).cons _).cons _).cons _).cons _).cons _)) rfl xpkd rfl rfl ?_
 rintro v S ⟨rfl, rfl⟩
 rw [show ((Pc.mk 1 0 2 1).l + ((nlC ((awB.drop 3).take 4) : Nat) : Int)) = 2 from rfl]
 refine l_tell rfl ?_
 repeat' first | refine wk ?_ | refine wc ?_ ?_ <;> intro h <;> try omega | fail
 have hsv := s_edSave (awK cc d (some [49, 10])) pg' sl' F4 E V T s 0 e.t 1 us' (.pointer (some ⟨e.l, 0, none⟩)) pa' pc' 2 no2 0 2 su0 ka' kn' kc' no (awK_base cc d _) [49, 10] awB rfl rfl rfl rfl rfl g1 awL_lf n1 hno (by show us'.length + 3 ≤ 64; omega) (by omega) (fun k hk => by have := g3 k hk; omega) (by omega) (by omega) (by show 256 * 64 * 4 ≤ _; omega) 6
 refine c_call (hsv.pre (((((((ent_stless F3 (awC (awK cc d (some [49, 10])) F4) (by rw [hF3, hF4]; show 100000000 + 256 * 64 * 1 + 1 + 64 + 1 + 64 + 6 + 64 + 6 + 64 + 256 + 10000000 + 256 * 64 + 256 * 64 + 256 * 64 + 256 * 64 ≤ 200000000; decide) _).cons _).cons _).cons _).cons _).cons _).cons _)) rfl xpkd rfl rfl ?_
 rintro v S ⟨K', pg2, sl2, hKd, hKo, rfl, rfl⟩
 refine l_tell rfl ?_
 repeat' first | refine wk ?_ | refine wc ?_ ?_ <;> intro h <;> try omega | fail
 refine c_call (s_topFile K' pg2 sl2 F4 d hKd [49, 10, 10, 116, 119, 111] hKo (by decide) (by decide)) rfl xpkd rfl rfl ?_
 rintro v S ⟨fb, fc, rfl, rfl⟩
 refine l_tell rfl ?_
 repeat' first | refine l_qp (by exact q_eqlStr rfl rfl) rfl ?_ | refine d_qp rfl (by exact q_eqlStr rfl rfl) rfl ?_ | refine d_gqp rfl rfl (by exact q_eqlStr rfl rfl) rfl ?_ | refine wk ?_ | refine wc ?_ ?_ <;> intro h <;> try omega | refine l_qs (by (apply c_convStr; exact rfl; (repeat (first | exact CAt.here | apply CAt.there)))) rfl ?_ | fail
 exact b_ret [] rfl (fun _ _ => trivial) ⟨by rw [ByteArray.toList_eq, ByteArray.toList_eq]; rfl, rfl⟩
end Go.Ox
end
