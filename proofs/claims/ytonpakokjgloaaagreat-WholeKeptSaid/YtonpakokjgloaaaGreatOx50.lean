/- WholeKept, part 50. No condition. -/
import Derived.Laws.StructEq
import Derived.Test.YtonpakokjgloaaaGreatOx35
import Derived.Test.YtonpakokjgloaaaGreatOx39
import Derived.Test.YtonpakokjgloaaaGreatOx49
set_option linter.all false
section
set_option maxRecDepth 100000
set_option maxHeartbeats 3200000
namespace Go.Ox
open Go Go.Proofs
theorem s_svSize (K : SK) (pg : Nat → Option (List Nat)) (sl fu : Nat) (n : Nm) (hn : n ≠ .s) : Spec Tryz.prog 172 [.pointer (some ⟨K.d, 0, none⟩), .string n.name] [stC K pg sl fu] (fun v S => v = .int .i64 (lenO (K.get n) : Nat) ∧ S = [stC K pg sl fu]) := by
 refine spec_of Tryz.func172 rfl Tryz.results172 Tryz.ntmps172 rfl ?_
 repeat' first | refine wk ?_ | refine wc ?_ ?_ <;> intro h <;> try omega | fail
 refine c_call (s_stsizeN K pg sl fu n hn) rfl xpkd rfl rfl ?_
 rintro v S ⟨rfl, rfl⟩
 refine l_tell rfl ?_
 repeat' first | refine l_qp (by exact q_maxE (szI_max _) rfl rfl) rfl ?_ | refine d_qp rfl (by exact q_maxE (szI_max _) rfl rfl) rfl ?_ | refine d_gqp rfl rfl (by exact q_maxE (szI_max _) rfl rfl) rfl ?_ | refine wk ?_ | refine wc ?_ ?_ <;> intro h <;> try omega | fail
 exact b_ret [stC K pg sl fu] rfl (Ent.pick xpkd) ⟨rfl, rfl⟩
def awJ (s d g r c gb gc sum : Nat) (rest : List Value) : Asn := jbC s d (.int .i64 7) (.int .i64 (g : Int)) (.int .i64 (r : Int)) (.int .i64 (c : Int)) (.int .i64 2) (.int .i64 6) (.int .i64 6) (.slice none 0 0) (.slice (some ⟨gb, 0, none⟩) 1 gc) (.slice none 0 0) 98 sum rest
theorem lay_keep {jb h : List Nat} (hh : h.length = 64) (hj : 64 ≤ jb.length) : (layB jb 0 h).drop 192 = jb.drop 192 := by
 unfold layB
 rw [List.take_zero, List.nil_append, List.drop_append, List.drop_eq_nil_of_le (by omega), List.nil_append, List.drop_drop]
 congr 1
 omega
theorem lay_slot {jb x : List Nat} (hj : 198 ≤ jb.length) (hx : x.length = 6) : ((layB jb 192 x).drop 192).take 6 = x := by
 unfold layB
 rw [List.append_assoc, List.drop_append, List.drop_eq_nil_of_le (by rw [List.length_take]; omega), List.nil_append, List.length_take, show 192 - min 192 jb.length = 0 from by omega, List.drop_zero, List.take_append_of_le_length (by omega), List.take_of_length_le (by omega)]
theorem lay_first {ob x : List Nat} (hx : x.length = 6) : (layB ob 0 x).take 6 = x := by
 unfold layB
 rw [List.take_zero, List.nil_append, List.take_append_of_le_length (by omega), List.take_of_length_le (by omega)]
section
variable (s g r c gb gc ob oc pb pc sum : Nat) (rest : List Value) (K : SK) (hb : K.base) (pg : Nat → Option (List Nat)) (sl fu : Nat) (hsl : 64 ≤ sl)
include hb hsl
theorem s_svCarry (hs : (Su.mk g r c 2 6).ok) (tb ol jb : List Nat) (ht : K.t = some tb) (htl : tb.length = 2) (ho : K.o = some ol) (hol : ol.length = 7) (hj : K.j = some jb) (hjl : jb.length = 256) (hsu : sum < 4294967296) (hgc : 1 ≤ gc) :
  Spec Tryz.prog 118 [.pointer (some ⟨s, 0, none⟩), .int .i64 0, .bool false] [awJ s K.d g r c gb gc sum rest, own (some ⟨gb, 0, none⟩) 1 gc 269 1 [[.slice (some ⟨ob, 0, none⟩) 1 1]], own (some ⟨ob, 0, none⟩) 1 oc 276 2 [[.int .i64 0, .slice (some ⟨pb, 0, none⟩) 2 pc]], own (some ⟨pb, 0, none⟩) 2 pc 85 3 awLV, stC K pg sl (fu + 1 + 64 + 1 + 64 + 6 + 64 + 6)]
   (fun v S => ∃ jb', v = .tuple #[] ∧ S = [awJ s K.d g r c gb gc sum rest, stC ((K.put .o ((tb.drop 0).take 2 ++ (ol.drop 3).take 4)).put .j jb') pg sl fu] ∧ jb'.length = 0) := by
 have hx : ((tb.drop 0).take 2 ++ (ol.drop 3).take 4).length = 6 := by rw [List.length_append, List.length_take, List.length_take, List.length_drop, List.length_drop]; omega
 have e1 : lenO K.o = 7 := by rw [ho]; exact hol
 have e2 : lenO K.t = 2 := by rw [ht]; exact htl
 have e3 : lenO K.j = 256 := by rw [hj]; exact hjl
 refine spec_of Tryz.func118 rfl Tryz.results118 Tryz.ntmps118 rfl ?_
 repeat' first | refine t_rounds 3 (rnd_succ ?_) | refine rnd_succ ?_ | refine wk ?_ | refine wc ?_ ?_ <;> intro h <;> try omega | refine l_qs (by (apply c_loadOA; exact rfl; (repeat (first | exact CAt.here | apply CAt.there)); exact rfl; exact rfl; exact rfl)) rfl ?_ | refine d_qs rfl (by (apply c_loadOA; exact rfl; (repeat (first | exact CAt.here | apply CAt.there)); exact rfl; exact rfl; exact rfl)) rfl ?_ | refine d_gqs rfl rfl (by (apply c_loadOA; exact rfl; (repeat (first | exact CAt.here | apply CAt.there)); exact rfl; exact rfl; exact rfl)) rfl ?_ | refine l_qs (by (apply c_loadO; exact rfl; (repeat (first | exact CAt.here | apply CAt.there)); exact rfl; exact rfl; exact rfl)) rfl ?_ | refine d_qs rfl (by (apply c_loadO; exact rfl; (repeat (first | exact CAt.here | apply CAt.there)); exact rfl; exact rfl; exact rfl)) rfl ?_ | refine d_gqs rfl rfl (by (apply c_loadO; exact rfl; (repeat (first | exact CAt.here | apply CAt.there)); exact rfl; exact rfl; exact rfl)) rfl ?_ | (refine n_eff ?_ ?_; · (repeat first | refine wre ?_ | refine r_cons rfl (by first | (apply c_loadOA; exact rfl; (repeat (first | exact CAt.here | apply CAt.there)); exact rfl; exact rfl; exact rfl) | (apply c_loadO; exact rfl; (repeat (first | exact CAt.here | apply CAt.there)); exact rfl; exact rfl; exact rfl) | fail) rfl ?_ | refine r_gcons rfl rfl (by first | (apply c_loadOA; exact rfl; (repeat (first | exact CAt.here | apply CAt.there)); exact rfl; exact rfl; exact rfl) | (apply c_loadO; exact rfl; (repeat (first | exact CAt.here | apply CAt.there)); exact rfl; exact rfl; exact rfl) | fail) rfl ?_ | exact r_nil | fail)) | fail
 rotate_left
 ·exact absurd (by decide : (0 : Int) < ((1 - 0 : Nat) : Int)) h
 refine o_alloc rfl rfl fun s1 => ?_
 repeat' first | refine t_draw (id := 7) (.eval 0 true (.eval 1 true (.eval 2 true (.eval 3 false (.eval 4 true (.eval 5 true (.eval 7 true (.eval 8 false (.eff 6 [3, 8] (.eff 9 [3] (.eff 10 [8] (.eff 11 [3, 8] .fin .stop) .stop) .stop) .stop))))))))) rfl (by kernel_rfl) ?_ | refine wk ?_ | refine wc ?_ ?_ <;> intro h <;> try omega | fail
 refine c_call (s_svSlot s _ _ _ _ _ _ _ _ _ _ 98 sum rest K.d 0 (by omega) (by omega)) rfl xpkd rfl rfl ?_
 rintro v S ⟨rfl, rfl⟩
 refine l_tell rfl ?_
 repeat' first | refine wk ?_ | refine wc ?_ ?_ <;> intro h <;> try omega | fail
 refine c_call (s_svMade s _ _ _ _ _ _ _ _ _ _ 98 sum rest K pg sl (fu + 1 + 64 + 1 + 64 + 6 + 64 + 6) pb pc tb ol ht htl ho hol) rfl xpkd rfl rfl ?_
 rintro v S ⟨mb, mc, rfl, rfl⟩
 refine l_tell rfl ?_
 refine l_fact (own_leC (a := some ⟨mb, 0, none⟩) (n := 6) xfnd) fun hmc => ?_
 generalize hX : (tb.drop 0).take 2 ++ (ol.drop 3).take 4 = X at *
 repeat' first | refine wk ?_ | refine wc ?_ ?_ <;> intro h <;> try omega | fail
 have hK := hb.ok (by omega)
 have hw4 := s_stwrite (own (some ⟨mb, 0, none⟩) 6 mc 5 1 (vb X)) K hK pg sl (fu + 1 + 64 + 1 + 64 + 6 + 64) 192 .j (fun h => by cases h) (some ⟨mb, 0, none⟩) 6 mc X (Rds.own 0 rfl) hx hmc (by show 192 ≤ lenO K.j; omega) (by omega) (by have := hb.2.2.1; omega)
 rw [show K.get .j = some jb from hj] at hw4
 refine c_call hw4 rfl xpkd rfl rfl ?_
 rintro v S ⟨rfl, rfl⟩
 refine l_tell rfl ?_
 repeat' first | refine wk ?_ | refine wc ?_ ?_ <;> intro h <;> try omega | fail
 refine c_call s_must rfl .nil rfl rfl ?_
 rintro v S ⟨rfl, rfl⟩
 refine l_tell rfl ?_
 repeat' first | refine t_rounds 3 (rnd_succ ?_) | refine rnd_succ ?_ | refine pt_exit ?_ | refine pb_exit ?_ | refine wk ?_ | refine wc ?_ ?_ <;> intro h <;> try omega | fail
 generalize hj1 : layB (byO (some jb)) 192 X = j1 at *
 have hj1l : j1.length = 256 := by rw [← hj1]; show (layB jb 192 X).length = 256; rw [lay_len (by omega)]; exact hjl
 have hj1s : (j1.drop 192).take 6 = X := by rw [← hj1]; exact lay_slot (by show 198 ≤ jb.length; omega) hx
 refine c_call (s_stsyncN (K.put .j j1) pg sl (fu + 1 + 64 + 1 + 64 + 6 + 64) .j (fun h => by cases h) j1 rfl (by omega)) rfl xpkd rfl rfl ?_
 rintro v S ⟨rfl, rfl⟩
 refine l_tell rfl ?_
 repeat' first | refine wk ?_ | refine wc ?_ ?_ <;> intro h <;> try omega | fail
 refine c_call s_must rfl .nil rfl rfl ?_
 rintro v S ⟨rfl, rfl⟩
 refine l_tell rfl ?_
 repeat' first | refine wk ?_ | refine wc ?_ ?_ <;> intro h <;> try omega | fail
 refine c_call (s_svHead s _ _ _ _ _ _ _ _ _ _ 98 sum rest (K.put .j j1) hb pg sl (fu + 1 + 64 + 1 + 64 + 6) 0 true j1 rfl (by omega) (by show lenO K.o + lenO K.t + j1.length ≤ 4096; omega) (by omega) (by omega) hsu) rfl xpkd rfl rfl ?_
 rintro v S ⟨h1, hh1, rfl, rfl⟩
 refine l_tell rfl ?_
 generalize hj2 : layB j1 0 h1 = j2 at *
 have hj2l : j2.length = 256 := by rw [← hj2, lay_len (by omega)]; exact hj1l
 have hj2s : (j2.drop 192).take 6 = X := by rw [← hj2, lay_keep hh1 (by omega)]; exact hj1s
 repeat' first | refine wk ?_ | refine wc ?_ ?_ <;> intro h <;> try omega | fail
 refine c_call (s_svWave s _ _ _ _ _ _ _ _ _ _ 98 sum rest (K.put .j j2) hb pg sl (fu + 1 + 64 + 1 + 64) ob oc pb pc j2 ol rfl (by omega) ho hol (by show lenO K.o + lenO K.t + j2.length ≤ 4096; omega) rfl rfl) rfl xpkd rfl rfl ?_
 rintro v S ⟨rfl, rfl⟩
 refine l_tell rfl ?_
 rw [hj2s]
 generalize ho3 : layB ol 0 X = o3 at *
 have ho3l : o3.length = 7 := by rw [← ho3, lay_len (by omega)]; exact hol
 have ho3s : o3.take 6 = X := by rw [← ho3]; exact lay_first hx
 repeat' first | refine wk ?_ | refine wc ?_ ?_ <;> intro h <;> try omega | fail
 refine c_call (s_svHead s _ _ _ _ _ _ _ _ _ _ 98 sum rest ((K.put .j j2).put .o o3) hb pg sl (fu + 1 + 64 + 1) 1 false j2 rfl (by omega) (by show o3.length + lenO K.t + j2.length ≤ 4096; omega) (by omega) (by omega) hsu) rfl xpkd rfl rfl ?_
 rintro v S ⟨h2, hh2, rfl, rfl⟩
 refine l_tell rfl ?_
 generalize hj4 : layB j2 0 h2 = j4 at *
 have hj4l : j4.length = 256 := by rw [← hj4, lay_len (by omega)]; exact hj2l
 repeat' first | refine t_rounds 3 (rnd_succ ?_) | refine rnd_succ ?_ | refine pt_exit ?_ | refine pb_exit ?_ | refine t_draw (id := 15) (.eval 0 true (.eval 1 true (.eval 2 true (.eval 3 false (.eval 5 true (.eval 6 true (.eval 7 true (.eval 8 true (.eval 9 true (.eval 10 false (.eff 4 [10] (.eval 11 true .fin) .stop))))))))))) rfl (by kernel_rfl) ?_ | refine wk ?_ | refine wc ?_ ?_ <;> intro h <;> try omega | fail
 refine c_call (s_svSize ((K.put .o o3).put .j j4) pg sl (fu + 1 + 64 + 1) .o (fun h => by cases h)) rfl xpkd rfl rfl ?_
 rintro v S ⟨rfl, rfl⟩
 rw [show lenO (((K.put .o o3).put .j j4).get .o) = 7 from ho3l]
 refine l_tell rfl ?_
 repeat' first | refine t_draw (id := 16) (.eval 0 true (.eval 1 true (.eval 2 true (.eval 3 false (.eval 4 true (.eval 5 true (.eval 6 true (.eval 7 true (.eval 8 true (.eval 9 false (.eff 10 [] (.eff 11 [3, 9] .fin .stop) .stop))))))))))) rfl (by kernel_rfl) ?_ | refine wk ?_ | refine wc ?_ ?_ <;> intro h <;> try omega | fail
 refine c_call (s_stcut ((K.put .o o3).put .j j4) pg sl (fu + 1 + 64) .o (fun h => by cases h) o3 rfl 6 (by omega)) rfl xpkd rfl rfl ?_
 rintro v S ⟨rfl, rfl⟩
 rw [ho3s]
 refine l_tell rfl ?_
 repeat' first | refine wk ?_ | refine wc ?_ ?_ <;> intro h <;> try omega | fail
 refine c_call s_must rfl .nil rfl rfl ?_
 rintro v S ⟨rfl, rfl⟩
 refine l_tell rfl ?_
 repeat' first | refine wk ?_ | refine wc ?_ ?_ <;> intro h <;> try omega | fail
 refine c_call (s_stsizeN ((K.put .o X).put .j j4) pg sl (fu + 1 + 64) .o (fun h => by cases h)) rfl xpkd rfl rfl ?_
 rintro v S ⟨rfl, rfl⟩
 rw [show szI (((K.put .o X).put .j j4).get .o) = 6 from by show ((X.length : Nat) : Int) = 6; rw [hx]; rfl]
 refine l_tell rfl ?_
 repeat' first | refine wk ?_ | refine wc ?_ ?_ <;> intro h <;> try omega | fail
 refine c_call (s_stsyncN ((K.put .o X).put .j j4) pg sl (fu + 1 + 64) .o (fun h => by cases h) X rfl (by omega)) rfl xpkd rfl rfl ?_
 rintro v S ⟨rfl, rfl⟩
 refine l_tell rfl ?_
 repeat' first | refine wk ?_ | refine wc ?_ ?_ <;> intro h <;> try omega | fail
 refine c_call s_must rfl .nil rfl rfl ?_
 rintro v S ⟨rfl, rfl⟩
 refine l_tell rfl ?_
 repeat' first | refine wk ?_ | refine wc ?_ ?_ <;> intro h <;> try omega | fail
 refine c_call (s_suPack (Su.mk g r c 2 6) hs) rfl .nil rfl rfl ?_
 rintro v S ⟨pa, pc', pbs, hpl, hpb, rfl, rfl⟩
 refine l_tell rfl ?_
 repeat' first | refine wk ?_ | refine wc ?_ ?_ <;> intro h <;> try omega | fail
 refine c_call s_must rfl .nil rfl rfl ?_
 rintro v S ⟨rfl, rfl⟩
 refine l_tell rfl ?_
 repeat' first | refine t_draw (id := 21) (.eval 0 true (.eval 1 true (.eval 2 true (.eval 3 false (.eval 4 true (.eval 5 true (.eval 6 true (.eval 7 true (.eval 8 true (.eval 9 false (.eval 11 true (.eff 10 [3] (.eff 12 [9] (.eff 13 [3, 9] .fin .stop) .stop) .stop)))))))))))) rfl (by kernel_rfl) ?_ | refine wk ?_ | refine wc ?_ ?_ <;> intro h <;> try omega | fail
 refine c_call (s_suPlace g hs.2.1) rfl .nil rfl rfl ?_
 rintro v S ⟨rfl, rfl⟩
 refine l_tell rfl ?_
 refine l_fact (own_leC (a := pa) xfnd) fun hpc => ?_
 repeat' first | refine wk ?_ | refine wc ?_ ?_ <;> intro h <;> try omega | fail
 have hK7 : ((K.put .o X).put .j j4).ok := SK.base.ok hb (by show X.length + lenO K.t + j4.length ≤ 4096; omega)
 refine c_call (s_sthead (own pa 64 pc' 5 1 (vb pbs)) ((K.put .o X).put .j j4) hK7 pg sl (fu + 1) (64 * (g % 2)) pa pc' pbs (Rds.own 0 rfl) hpl hpc (by omega) (by omega)) rfl xpkd rfl rfl ?_
 rintro v S ⟨rfl, rfl⟩
 refine l_tell rfl ?_
 repeat' first | refine wk ?_ | refine wc ?_ ?_ <;> intro h <;> try omega | fail
 refine c_call s_must rfl .nil rfl rfl ?_
 rintro v S ⟨rfl, rfl⟩
 refine l_tell rfl ?_
 repeat' first | refine wk ?_ | refine wc ?_ ?_ <;> intro h <;> try omega | fail
 refine c_call (s_stsync ((K.put .o X).put .j j4) hK7 pg sl (fu + 1) (by omega)) rfl xpkd rfl rfl ?_
 rintro v S ⟨rfl, rfl⟩
 refine l_tell rfl ?_
 repeat' first | refine wk ?_ | refine wc ?_ ?_ <;> intro h <;> try omega | fail
 refine c_call s_must rfl .nil rfl rfl ?_
 rintro v S ⟨rfl, rfl⟩
 refine l_tell rfl ?_
 repeat' first | refine wk ?_ | refine wc ?_ ?_ <;> intro h <;> try omega | fail
 refine c_call (s_stcut ((K.put .o X).put .j j4) pg sl fu .j (fun h => by cases h) j4 rfl 0 (by omega)) rfl xpkd rfl rfl ?_
 rintro v S ⟨rfl, rfl⟩
 refine l_tell rfl ?_
 repeat' first | refine wk ?_ | refine wc ?_ ?_ <;> intro h <;> try omega | fail
 refine c_call s_must rfl .nil rfl rfl ?_
 rintro v S ⟨rfl, rfl⟩
 refine l_tell rfl ?_
 repeat' first | refine wk ?_ | refine wc ?_ ?_ <;> intro h <;> try omega | fail
 refine c_call (s_stsyncN ((K.put .o X).put .j (j4.take 0)) pg sl fu .j (fun h => by cases h) (j4.take 0) rfl (by rw [List.length_take]; omega)) rfl xpkd rfl rfl ?_
 rintro v S ⟨rfl, rfl⟩
 refine l_tell rfl ?_
 repeat' first | refine wk ?_ | refine wc ?_ ?_ <;> intro h <;> try omega | fail
 refine c_call s_must rfl .nil rfl rfl ?_
 rintro v S ⟨rfl, rfl⟩
 refine l_tell rfl ?_
 repeat' first | refine wk ?_ | refine wc ?_ ?_ <;> intro h <;> try omega | fail
 exact b_end [awJ s K.d g r c gb gc sum rest, stC ((K.put .o X).put .j (j4.take 0)) pg sl fu] rfl (Ent.pick xpkd) ⟨j4.take 0, rfl, rfl, by simp⟩
end
end Go.Ox
end
section
set_option maxRecDepth 100000
set_option maxHeartbeats 1600000
namespace Go.Ox
open Go Go.Proofs
def suFs : List Field := [{ name := "Gen", type := 3, offset := 0, embedded := false, tag := "", pkgPath := "", byteOffset := 0 }, { name := "Roll", type := 3, offset := 1, embedded := false, tag := "", pkgPath := "", byteOffset := 8 }, { name := "Cursor", type := 3, offset := 2, embedded := false, tag := "", pkgPath := "", byteOffset := 16 }, { name := "Tail", type := 3, offset := 3, embedded := false, tag := "", pkgPath := "", byteOffset := 24 }, { name := "Original", type := 3, offset := 4, embedded := false, tag := "", pkgPath := "", byteOffset := 32 }]
theorem su_fields : Tryz.prog.fieldsOf 109 = suFs.toArray := by kernel_rfl
theorem su_under : Tryz.prog.underlying 109 = some (.struct (Tryz.prog.fieldsOf 109)) := by kernel_rfl
theorem su_held : Tryz.prog.stoodInHeld 109 = false := by kernel_rfl
theorem su_guard : Tryz.prog.eqGuardType Tryz.prog.depth 109 = false := by kernel_rfl
theorem int_under : Tryz.prog.underlying 3 = some (.int .i64) := by kernel_rfl
theorem part_int (w : World) (l : List Value) (k : Nat) (v : Value) (h : l[k]? = some v) : (part 3 l.toArray k).run Tryz.prog w = .ok v w := by
 have hg : (isAgg 3).run Tryz.prog w = .ok false w := r_agg (P := Tryz.prog) w (t := 3) rfl
 simp only [part, Sem.run_bind, hg, Result.andThen_ok]
 simp [h]
theorem q_neqSu {env : KEnv} {x y : Operand} {t yt : TypeId} {s : Su} (hx : ev env x = some s.v) (hy : ev env y = some s.v) : QP Tryz.prog env (.binOp .neq 109 x y yt) t (.bool false) := .mk fun ρ h w d pos aft => by
 have hp : ∀ (k : Nat) (v : Value), s.cells[k]? = some v → (part 3 s.cells.toArray k).run Tryz.prog w = .ok v w := fun k v e => part_int w _ k v e
 have he : ∀ (d : Nat) (a : Int), (Op.equalIn (d + 1) 3 (.int .i64 a) (.int .i64 a)).run Tryz.prog w = .ok true w := fun d a => by
  rw [run_equalIn_int w d 3 .i64 .i64 a a int_under]; simp
 have hq : (Op.eqFields 9999 s.cells.toArray s.cells.toArray suFs).run Tryz.prog w = .ok true w := by
  simp [suFs, Op.eqFields, hp 0 _ rfl, hp 1 _ rfl, hp 2 _ rfl, hp 3 _ rfl, hp 4 _ rfl, he 9998]
 have hg := run_eqGuard_agg (P := Tryz.prog) w .neq 109 x y s.cells.toArray s.cells.toArray su_guard
 have hb : (binOp .neq 109 s.v s.v).run Tryz.prog w = .ok (.bool false) w := by
  unfold Su.v
  rw [run_neq_struct, run_equalIn_struct w 9999 109 _ _ su_under su_held, su_fields]
  rw [show suFs.toArray.toList = suFs from rfl, hq]; rfl
 unfold Su.v at hb
 simp [execOp, h x _ hx, h y _ hy, Su.v, hg, hb]
theorem s_vnext (A : Asn) (V T s tk t : Nat) (K : SK) (hK : K.ok) (pg : Nat → Option (List Nat)) (sl fu : Nat) (us : List Nat) (vs : List Vn) (lv : Value) (pa : Option Addr) (pn pc cur : Nat) (su nx : Su) (ka : Option Addr) (kn kc : Nat) (a : Option Addr) (n c o : Nat)
  (hA : Rds [A] a n 2 (vsV vs)) (hl : vs.length = n) (hcn : cur < n) (hn2 : n ≤ 16) (ho : ∀ v ∈ vs, v.ok) (ho2 : o ≤ 1048576) (hg : su.g < 1099511627776) (hu : us.length + 2 ≤ K.n) (ht : tk ≤ 1000000000) (hcost : 256 * K.n * K.cap ≤ 10000000) :
  Spec Tryz.prog 171 [.pointer (some ⟨V, 0, none⟩), .slice a n c, .int .i64 (o : Int)] [vaC V K.cc s T K.d (.pointer (some ⟨t, 0, none⟩)) lv pa pn pc cur su nx ka kn kc, spC s us tk, stC K pg sl (fu + 10000000 + 256 * K.n), tlC t K.d (lenO K.t), A]
   (fun v S => ∃ no b, 1 ≤ no ∧ no ≤ us.length + 1 ∧ no ∉ us ∧ v = .tuple #[(Su.mk (su.g + 1) no cur (lenO K.t) o).v, .int .i64 0] ∧ S = [vaC V K.cc s T K.d (.pointer (some ⟨t, 0, none⟩)) lv pa pn pc cur su (Su.mk (su.g + 1) no cur (lenO K.t) o) ka kn kc, spC s (no :: us) (tk + 1), stC K (updP pg no (some b)) (256 * (no + 1)) fu, tlC t K.d (lenO K.t), A]) := by
 refine spec_of_d Tryz.func171 rfl Tryz.results171 Tryz.ntmps171 rfl ?_
 repeat' first | refine wb fun _ => ?_ | refine wk ?_ | refine wc ?_ ?_ <;> intro h <;> try omega | fail
 refine c_call (s_pMay A a n c cur vs hA hl hcn hn2 ho) rfl xpkd rfl rfl ?_
 rintro v S ⟨rfl, rfl⟩
 refine l_tell rfl ?_
 repeat' first | refine wk ?_ | refine wc ?_ ?_ <;> intro h <;> try omega | fail
 refine c_call (s_vready A V T s tk t K hK pg sl fu us vs lv pa pn pc cur su nx ka kn kc a n c cur o hA hl (by omega) hn2 ho hg hu ht hcost) rfl xpkd rfl rfl ?_
 rintro v S ⟨no, b, h1, h2, h3, rfl, rfl⟩
 refine l_tell rfl ?_
 repeat' first | refine wb fun _ => ?_ | refine wk ?_ | refine wc ?_ ?_ <;> intro h <;> try omega | fail
 exact bd_ret (out_nil [vaC V K.cc s T K.d (.pointer (some ⟨t, 0, none⟩)) lv pa pn pc cur su (Su.mk (su.g + 1) no cur (lenO K.t) o) ka kn kc, spC s (no :: us) (tk + 1), stC K (updP pg no (some b)) (256 * (no + 1)) fu, tlC t K.d (lenO K.t), A] (.cons (.cell fun N D => c_loadA rfl xfnd rfl rfl rfl) (.cons (.tmp rfl) .nil)) (Ent.pick xpkd) ⟨no, b, h1, h2, h3, rfl, rfl⟩)
theorem s_vadoptTop (A : Asn) (V T s tk B t : Nat) (K : SK) (hK : K.ok) (pg : Nat → Option (List Nat)) (sl fu : Nat) (us : List Nat) (vs : List Vn) (lv : Value) (pa : Option Addr) (pn pc cur : Nat) (su nx : Su) (ka : Option Addr) (kn kc : Nat) (a : Option Addr) (n c : Nat)
  (hA : Rds [A] a n 2 (vsV vs)) (hl : vs.length = n) (hcn : nx.c < n) (hn2 : n ≤ 16) (ho : ∀ v ∈ vs, v.ok) (hv : ∀ v ∈ vs, v.r ≠ 0 → v.r < 1048576 ∧ ∃ ps, pg v.r = some (lfB v.r ps) ∧ LfOk ps) (hg : 1 ≤ nx.g) (hr : 1 ≤ nx.r ∧ nx.r < 1048576) (ho2 : nx.o ≤ 1048576) (hu : us.length ≤ 1000000) (hb : ∀ k ∈ us, k + 1 ≤ B) (hB : B ≤ 1048576) :
  Spec Tryz.prog 120 [.pointer (some ⟨V, 0, none⟩), nx.v, .slice a n c] [vaC V K.cc s T K.d (.pointer (some ⟨t, 0, none⟩)) lv pa pn pc cur su nx ka kn kc, spC s us tk, stC K pg sl (fu + 256 * K.n * n), trC T K.cc s, A]
   (fun v S => ∃ pg' lv' pa' pc' ka' kn' kc', v = .int .i64 0 ∧ S = [vaC V K.cc s T K.d (.pointer (some ⟨t, 0, none⟩)) lv' pa' n pc' nx.c nx su0 ka' kn' kc', own pa' n pc' 182 2 (vsV vs), stC K pg' sl fu]) := by
 refine spec_of Tryz.func120 rfl Tryz.results120 Tryz.ntmps120 rfl ?_
 repeat' first | refine wb fun _ => ?_ | refine wk ?_ | refine wc ?_ ?_ <;> intro h <;> try omega | fail
 refine t_draw (id := 1) (.eval 0 true (.eval 1 true (.eval 2 true (.eval 3 false (.eval 4 true (.eval 5 true (.eval 6 true (.eval 7 false (.eval 8 true (.eval 9 true (.eval 10 true (.eval 11 true (.eval 12 false (.eval 13 true (.eval 14 true (.eval 15 true (.eval 16 true (.eval 17 true (.eval 18 false (.eval 19 true (.eff 20 [3, 7, 12, 18] (.eval 21 true (.eval 22 true .fin)) .stop))))))))))))))))))))) rfl (by kernel_rfl) ?_
 repeat' first | refine l_qp (by exact q_neqSu (s := nx) rfl rfl) rfl ?_ | refine d_qp rfl (by exact q_neqSu (s := nx) rfl rfl) rfl ?_ | refine d_gqp rfl rfl (by exact q_neqSu (s := nx) rfl rfl) rfl ?_ | refine wk ?_ | refine wc ?_ ?_ <;> intro h <;> try omega | fail
 refine c_call (s_pMay A a n c nx.c vs hA hl hcn hn2 ho) rfl xpkd rfl rfl ?_
 rintro v S ⟨rfl, rfl⟩
 refine l_tell rfl ?_
 repeat' first | refine wb fun _ => ?_ | refine wk ?_ | refine wc ?_ ?_ <;> intro h <;> try omega | fail
 refine c_call (s_census A T s K hK pg sl fu a n c vs hA hl (by omega) ho (fun v hv1 hv2 => (hv v hv1 hv2).2)) rfl xpkd rfl rfl ?_
 rintro v S ⟨ka', kc', ks, hks, hkn, rfl, rfl⟩
 refine l_tell rfl ?_
 repeat' first | refine wk ?_ | refine wc ?_ ?_ <;> intro h <;> try omega | fail
 have hkr : ∀ k ∈ nx.r :: ks, 1 ≤ k ∧ k < 1048576 := by
  intro k hk
  rcases List.mem_cons.1 hk with rfl | hk
  ·exact hr
  ·obtain ⟨h0, v, hv1, rfl⟩ := (hks k).1 hk
   exact ⟨by omega, (hv v hv1 h0).1⟩
 refine c_call (s_vadopt0 A V T s tk B t K pg sl fu us ks vs pa pn pc cur su nx nx ka ka' kn kc kc' a n c hA (by omega) ho2 hu hb hB (by omega) hkr) rfl xpkd rfl rfl ?_
 rintro v S ⟨l, x, mp, us', pa', pc', h1, h2, rfl, rfl⟩
 refine l_tell rfl ?_
 repeat' first | refine wk ?_ | refine wc ?_ ?_ <;> intro h <;> try omega | fail
 exact b_ret [vaC V K.cc s T K.d (.pointer (some ⟨t, 0, none⟩)) (.pointer (some ⟨l, 0, none⟩)) pa' n pc' nx.c nx su0 ka' ks.length kc', own pa' n pc' 182 2 (vsV vs), stC K (rpg pg (nx.r :: ks)) sl fu] rfl (Ent.pick xpkd) ⟨_, _, pa', pc', ka', _, kc', rfl, rfl⟩
end Go.Ox
end
