/- WholeKept, part 47. No condition. -/
import Derived.Test.YtonpakokjgloaaaGreatOx45
set_option linter.all false
section
set_option maxRecDepth 100000
set_option maxHeartbeats 4000000
namespace Go.Ox
open Go Go.Proofs
section
variable (g r c gb gc ob oc pb pc : Nat)
def joV : Value := .agg #[.int .i64 7, .int .i64 (g : Int), .int .i64 (r : Int), .int .i64 (c : Int), .int .i64 2, .int .i64 6, .int .i64 6, .slice none 0 0, .slice (some ⟨gb, 0, none⟩) 1 gc, .slice none 0 0]
theorem s_rMay (hs : (Su.mk g r c 2 6).ok) :
  Spec Tryz.prog 248 [joV g r c gb gc] (plS gb gc ob oc pb pc) (fun v S => v = .bool true ∧ S = plS gb gc ob oc pb pc) := by
 refine spec_of Tryz.func248 rfl Tryz.results248 Tryz.ntmps248 rfl ?_
 show Trip _ _ _ _ (numF 0 [.agg #[.int .i64 7, .int .i64 (g : Int), .int .i64 (r : Int), .int .i64 (c : Int), .int .i64 2, .int .i64 6, .int .i64 6, .slice none 0 0, .slice (some ⟨gb, 0, none⟩) 1 gc, .slice none 0 0]]) _ _
 repeat' first | refine wb fun _ => ?_ | refine wk ?_ | refine wc ?_ ?_ <;> intro h <;> try omega | fail
 refine t_draw (id := 1) (.eval 0 true (.eval 1 false (.eval 2 true (.eval 3 true (.eval 4 true (.eval 5 false (.eval 6 true (.eval 7 true (.eval 8 true (.eval 9 true (.eval 10 false (.eff 11 [1, 5] (.eval 12 true (.eval 13 true (.eval 14 true (.eval 15 true (.eval 16 false (.eval 17 true (.eval 18 true (.eval 19 false (.eval 20 true (.eval 21 true (.eval 22 true (.eval 23 true (.eval 24 false (.eval 25 true (.eval 26 false (.eval 27 true (.eval 28 true (.eval 29 false (.eff 30 [1, 5, 10, 16, 19] (.eval 31 true (.eval 32 true (.eval 33 true (.eval 34 true (.eval 35 false (.eval 36 true (.eval 37 true (.eval 38 true (.eval 39 false (.eff 40 [1, 5, 10, 16, 19, 24, 26, 29, 35] (.eval 41 true (.eval 42 true (.eff 43 [] .fin .stop))) .stop)))))))))) .stop))))))))))))))))))) .stop)))))))))))) rfl (by kernel_rfl) ?_
 repeat' first | refine wk ?_ | refine wc ?_ ?_ <;> intro h <;> try omega | fail
 refine c_call (s_suMay (Su.mk g r c 2 6) hs) rfl .nil rfl rfl ?_
 rintro v S ⟨rfl, rfl⟩
 refine l_tell rfl ?_
 repeat' first | refine wk ?_ | refine wc ?_ ?_ <;> intro h <;> try omega | fail
 refine c_call (s_mvCheck gb gc ob oc pb pc) rfl xpkd rfl rfl ?_
 rintro v S ⟨rfl, rfl⟩
 refine l_tell rfl ?_
 repeat' first | refine wk ?_ | refine wc ?_ ?_ <;> intro h <;> try omega | fail
 refine c_call (s_total0 none 0) rfl .nil rfl rfl ?_
 rintro v S ⟨rfl, rfl⟩
 refine l_tell rfl ?_
 repeat' first | refine wk ?_ | refine wc ?_ ?_ <;> intro h <;> try omega | fail
 exact b_ret (plS gb gc ob oc pb pc) rfl (Ent.pick xpkd) ⟨rfl, rfl⟩
def q174_23_x3x4x7x8x11x12x13 : Plan := .fin
def q174_23_x3x4x7x8x11x12 : Plan := (.eff 13 [] q174_23_x3x4x7x8x11x12x13 .stop)
def q174_23_x3x4x7x8x11 : Plan := (.eff 12 [2, 6, 10] q174_23_x3x4x7x8x11x12 .stop)
def q174_23_x3x4x7x8 : Plan := (.eff 11 [2, 6] q174_23_x3x4x7x8x11 .stop)
def q174_23_x3x4x7x11 : Plan := (.eff 8 [2, 6, 10] q174_23_x3x4x7x8x11 .stop)
def q174_23_x3x4x7 : Plan := (.eff 8 [2, 6, 10] q174_23_x3x4x7x8 (.eff 11 [2, 6] q174_23_x3x4x7x11 .stop))
def q174_23_x3x4x11 : Plan := (.eff 7 [2, 10] q174_23_x3x4x7x11 .stop)
def q174_23_x3x4 : Plan := (.eff 7 [2, 10] q174_23_x3x4x7 (.eff 11 [2, 6] q174_23_x3x4x11 .stop))
def q174_23_x3x7x11 : Plan := (.eff 4 [2, 6, 10] q174_23_x3x4x7x11 .stop)
def q174_23_x3x7 : Plan := (.eff 4 [2, 6, 10] q174_23_x3x4x7 (.eff 11 [2, 6] q174_23_x3x7x11 .stop))
def q174_23_x3x11 : Plan := (.eff 4 [2, 6, 10] q174_23_x3x4x11 (.eff 7 [2, 10] q174_23_x3x7x11 .stop))
def q174_23_x3 : Plan := (.eff 4 [2, 6, 10] q174_23_x3x4 (.eff 7 [2, 10] q174_23_x3x7 (.eff 11 [2, 6] q174_23_x3x11 .stop)))
def q174_23_x7x11 : Plan := (.eff 3 [6, 10] q174_23_x3x7x11 .stop)
def q174_23_x7 : Plan := (.eff 3 [6, 10] q174_23_x3x7 (.eff 11 [2, 6] q174_23_x7x11 .stop))
def q174_23_x11 : Plan := (.eff 3 [6, 10] q174_23_x3x11 (.eff 7 [2, 10] q174_23_x7x11 .stop))
def q174_23_0 : Plan := (.eff 3 [6, 10] q174_23_x3 (.eff 7 [2, 10] q174_23_x7 (.eff 11 [2, 6] q174_23_x11 .stop)))
theorem s_rPack (hs : (Su.mk g r c 2 6).ok) :
  Spec Tryz.prog 174 [joV g r c gb gc] (plS gb gc ob oc pb pc) (fun v S => ∃ a c', v = .tuple #[.slice a 98 c', .int .i64 0] ∧ S = [byC a 98 c', own (some ⟨gb, 0, none⟩) 1 gc 269 1 [[.slice (some ⟨ob, 0, none⟩) 1 1]], own (some ⟨ob, 0, none⟩) 1 oc 276 2 [[.int .i64 0, .slice (some ⟨pb, 0, none⟩) 2 pc]], own (some ⟨pb, 0, none⟩) 2 pc 85 3 awLV]) := by
 have p81 := fun (a an : Option Addr) (c cn : Nat) => s_rPutB a an 81 c 1 cn 4 [0] rfl (by omega) (by omega) (by omega) (by omega) (by decide)
 have p85 := fun (a an : Option Addr) (c cn : Nat) => s_rPutB a an 85 c 1 cn 1 [2] rfl (by omega) (by omega) (by omega) (by omega) (by decide)
 have p86 := fun (a an : Option Addr) (c cn : Nat) => s_rPutB a an 86 c 1 cn 1 [1] rfl (by omega) (by omega) (by omega) (by omega) (by decide)
 have p87 := fun (a an : Option Addr) (c cn : Nat) => s_rPutB a an 87 c 1 cn 4 [0] rfl (by omega) (by omega) (by omega) (by omega) (by decide)
 have p91 := fun (a an : Option Addr) (c cn : Nat) => s_rPutB a an 91 c 1 cn 1 [2] rfl (by omega) (by omega) (by omega) (by omega) (by decide)
 have p92 := fun (a an : Option Addr) (c cn : Nat) => s_rPutB a an 92 c 1 cn 1 [0] rfl (by omega) (by omega) (by omega) (by omega) (by decide)
 have p93 := fun (a an : Option Addr) (c cn : Nat) => s_rPutB a an 93 c 1 cn 4 [3] rfl (by omega) (by omega) (by omega) (by omega) (by decide)
 have p97 := fun (a an : Option Addr) (c cn : Nat) => s_rPutB a an 97 c 1 cn 1 [4] rfl (by omega) (by omega) (by omega) (by omega) (by decide)
 refine spec_of Tryz.func174 rfl Tryz.results174 Tryz.ntmps174 rfl ?_
 show Trip _ _ _ _ (numF 0 [.agg #[.int .i64 7, .int .i64 (g : Int), .int .i64 (r : Int), .int .i64 (c : Int), .int .i64 2, .int .i64 6, .int .i64 6, .slice none 0 0, .slice (some ⟨gb, 0, none⟩) 1 gc, .slice none 0 0]]) _ _
 repeat' first | refine wk ?_ | refine wc ?_ ?_ <;> intro h <;> try omega | fail
 refine o_box rfl rfl rfl fun jb => ?_
 repeat' first | refine wk ?_ | refine wc ?_ ?_ <;> intro h <;> try omega | fail
 refine c_call (s_rMay g r c gb gc ob oc pb pc hs) rfl xpkd rfl rfl ?_
 rintro v S ⟨rfl, rfl⟩
 refine l_tell rfl ?_
 repeat' first | refine wk ?_ | refine wc ?_ ?_ <;> intro h <;> try omega | fail
 refine c_call (s_suPack (Su.mk g r c 2 6) hs) rfl .nil rfl rfl ?_
 rintro v S ⟨a1, c1, bs1, hl1, hb1, rfl, rfl⟩
 refine l_tell rfl ?_
 refine l_ent (ent_by hl1 hb1 _) ?_
 repeat' first | refine o_buildSlice rfl rfl rfl rfl rfl rfl rfl rfl rfl rfl rfl rfl fun _ => ?_ | refine wk ?_ | refine wc ?_ ?_ <;> intro h <;> try omega | fail
 refine l_ent (ent_by0 _) ?_
 refine c_call (s_rPutB none _ 0 0 1 _ 4 [7] rfl (by omega) (by omega) (by omega) (by omega) (by decide)) rfl xpkd rfl rfl ?_
 rintro v S ⟨a2, c2, rfl, rfl⟩
 refine l_tell rfl ?_
 repeat' first | refine wk ?_ | refine wc ?_ ?_ <;> intro h <;> try omega | fail
 refine c_appendB (n := 4) (m := 64) rfl rfl xrmv xrmv (by omega) rfl fun a3 c3 => ?_
 repeat' first | refine o_buildSlice rfl rfl rfl rfl rfl rfl rfl rfl rfl rfl rfl rfl fun _ => ?_ | refine wk ?_ | refine wc ?_ ?_ <;> intro h <;> try omega | fail
 refine c_call (s_rPutB _ _ 68 _ 2 _ 4 [6, 0] rfl (by omega) (by omega) (by omega) (by omega) (by decide)) rfl xpkd rfl rfl ?_
 rintro v S ⟨a4, c4, rfl, rfl⟩
 refine l_tell rfl ?_
 repeat' first | refine o_buildSlice rfl rfl rfl rfl rfl rfl rfl rfl rfl rfl rfl rfl fun _ => ?_ | refine t_rounds 3 (rnd_succ ?_) | refine rnd_succ ?_ | refine pt_exit ?_ | refine pb_exit ?_ | refine wk ?_ | refine wc ?_ ?_ <;> intro h <;> try omega | fail
 refine c_call (s_rPutB _ _ 76 _ 1 _ 4 [1] rfl (by omega) (by omega) (by omega) (by omega) (by decide)) rfl xpkd rfl rfl ?_
 rintro v S ⟨a5, c5, rfl, rfl⟩
 refine l_tell rfl ?_
 repeat' first | refine o_buildSlice rfl rfl rfl rfl rfl rfl rfl rfl rfl rfl rfl rfl fun _ => ?_ | refine t_rounds 3 (rnd_succ ?_) | refine rnd_succ ?_ | refine pt_exit ?_ | refine pb_exit ?_ | refine wk ?_ | refine wc ?_ ?_ <;> intro h <;> try omega | refine l_qs (by (apply c_loadOA; exact rfl; (repeat (first | exact CAt.here | apply CAt.there)); exact rfl; exact rfl; exact rfl)) rfl ?_ | refine d_qs rfl (by (apply c_loadOA; exact rfl; (repeat (first | exact CAt.here | apply CAt.there)); exact rfl; exact rfl; exact rfl)) rfl ?_ | refine d_gqs rfl rfl (by (apply c_loadOA; exact rfl; (repeat (first | exact CAt.here | apply CAt.there)); exact rfl; exact rfl; exact rfl)) rfl ?_ | refine l_qs (by (apply c_loadO; exact rfl; (repeat (first | exact CAt.here | apply CAt.there)); exact rfl; exact rfl; exact rfl)) rfl ?_ | refine d_qs rfl (by (apply c_loadO; exact rfl; (repeat (first | exact CAt.here | apply CAt.there)); exact rfl; exact rfl; exact rfl)) rfl ?_ | refine d_gqs rfl rfl (by (apply c_loadO; exact rfl; (repeat (first | exact CAt.here | apply CAt.there)); exact rfl; exact rfl; exact rfl)) rfl ?_ | (refine n_eff ?_ ?_; · (repeat first | refine wre ?_ | refine r_cons rfl (by first | (apply c_loadOA; exact rfl; (repeat (first | exact CAt.here | apply CAt.there)); exact rfl; exact rfl; exact rfl) | (apply c_loadO; exact rfl; (repeat (first | exact CAt.here | apply CAt.there)); exact rfl; exact rfl; exact rfl) | fail) rfl ?_ | refine r_gcons rfl rfl (by first | (apply c_loadOA; exact rfl; (repeat (first | exact CAt.here | apply CAt.there)); exact rfl; exact rfl; exact rfl) | (apply c_loadO; exact rfl; (repeat (first | exact CAt.here | apply CAt.there)); exact rfl; exact rfl; exact rfl) | fail) rfl ?_ | exact r_nil | fail)) | fail
 refine c_call (s_rPutB _ _ 80 _ 1 _ 1 [1] rfl (by omega) (by omega) (by omega) (by omega) (by decide)) rfl xpkd rfl rfl ?_
 rintro v S ⟨a6, c6, rfl, rfl⟩
 refine l_tell rfl ?_
 repeat' first | refine t_rounds 3 (rnd_succ ?_) | refine rnd_succ ?_ | refine pt_exit ?_ | refine pb_exit ?_ | refine wk ?_ | refine wc ?_ ?_ <;> intro h <;> try omega | refine l_qs (by (apply c_loadOA; exact rfl; (repeat (first | exact CAt.here | apply CAt.there)); exact rfl; exact rfl; exact rfl)) rfl ?_ | refine d_qs rfl (by (apply c_loadOA; exact rfl; (repeat (first | exact CAt.here | apply CAt.there)); exact rfl; exact rfl; exact rfl)) rfl ?_ | refine d_gqs rfl rfl (by (apply c_loadOA; exact rfl; (repeat (first | exact CAt.here | apply CAt.there)); exact rfl; exact rfl; exact rfl)) rfl ?_ | refine l_qs (by (apply c_loadO; exact rfl; (repeat (first | exact CAt.here | apply CAt.there)); exact rfl; exact rfl; exact rfl)) rfl ?_ | refine d_qs rfl (by (apply c_loadO; exact rfl; (repeat (first | exact CAt.here | apply CAt.there)); exact rfl; exact rfl; exact rfl)) rfl ?_ | refine d_gqs rfl rfl (by (apply c_loadO; exact rfl; (repeat (first | exact CAt.here | apply CAt.there)); exact rfl; exact rfl; exact rfl)) rfl ?_ | (refine n_eff ?_ ?_; · (repeat first | refine wre ?_ | refine r_cons rfl (by first | (apply c_loadOA; exact rfl; (repeat (first | exact CAt.here | apply CAt.there)); exact rfl; exact rfl; exact rfl) | (apply c_loadO; exact rfl; (repeat (first | exact CAt.here | apply CAt.there)); exact rfl; exact rfl; exact rfl) | fail) rfl ?_ | refine r_gcons rfl rfl (by first | (apply c_loadOA; exact rfl; (repeat (first | exact CAt.here | apply CAt.there)); exact rfl; exact rfl; exact rfl) | (apply c_loadO; exact rfl; (repeat (first | exact CAt.here | apply CAt.there)); exact rfl; exact rfl; exact rfl) | fail) rfl ?_ | exact r_nil | fail)) | fail
 refine o_alloc rfl rfl fun sb => ?_
 repeat' first | refine wk ?_ | refine wc ?_ ?_ <;> intro h <;> try omega | fail
 refine t_mid (fun q : Option Addr × Nat => [(1, .pointer (some ⟨jb, 0, none⟩)), (6, .slice q.1 86 q.2), (12, .pointer (some ⟨sb, 0, none⟩)), (65, .slice (some ⟨gb, 0, none⟩) 1 gc), (66, .int .i64 1), (67, .int .i64 0), (76, .slice (some ⟨ob, 0, none⟩) 1 1), (77, .int .i64 1), (78, .int .i64 0)]) (fun q => [byC q.1 86 q.2, cellsAt sb 276 [.int .i64 0, .slice (some ⟨pb, 0, none⟩) 2 pc], cellsAt jb 197 [.int .i64 7, .int .i64 (g : Int), .int .i64 (r : Int), .int .i64 (c : Int), .int .i64 2, .int .i64 6, .int .i64 6, .slice none 0 0, .slice (some ⟨gb, 0, none⟩) 1 gc, .slice none 0 0], own (some ⟨gb, 0, none⟩) 1 gc 269 1 [[.slice (some ⟨ob, 0, none⟩) 1 1]], own (some ⟨ob, 0, none⟩) 1 oc 276 2 [[.int .i64 0, .slice (some ⟨pb, 0, none⟩) 2 pc]], own (some ⟨pb, 0, none⟩) 2 pc 85 3 awLV]) (fun _ => True) ?_ ?_
 ·refine t_draw (id := 19) (.eval 0 true (.eval 1 true (.eval 2 false (.eval 5 true (.eval 6 false (.eval 7 true (.eff 3 [6] (.eff 4 [2, 6] (.eff 8 [2, 6] (.eff 9 [2, 6] (.eff 10 [] .fin .stop) .stop) .stop) (.eff 8 [2, 6] (.eff 4 [2, 6] (.eff 9 [2, 6] (.eff 10 [] .fin .stop) .stop) .stop) .stop)) (.eff 8 [2, 6] (.eff 3 [6] (.eff 4 [2, 6] (.eff 9 [2, 6] (.eff 10 [] .fin .stop) .stop) .stop) .stop) .stop)))))))) rfl (by kernel_rfl) ?_
  repeat' first | exact d_stop | refine d_eff rfl ?_ ?_ | refine o_buildSlice rfl rfl rfl rfl rfl rfl rfl rfl rfl rfl rfl rfl fun _ => ?_ | refine wk ?_ | refine wc ?_ ?_ <;> intro h <;> try omega | (refine c_call (p81 _ _ _ _) rfl xpkd rfl rfl ?_; rintro v S ⟨_, _, rfl, rfl⟩; refine l_tell rfl ?_) | (refine c_call (p85 _ _ _ _) rfl xpkd rfl rfl ?_; rintro v S ⟨_, _, rfl, rfl⟩; refine l_tell rfl ?_) | exact ⟨rfl, (_, _), trivial, xlss, Ent.pick xpkd⟩ | fail
 rintro ⟨a7, c7⟩ -
 dsimp only
 repeat' first | refine t_rounds 3 (rnd_succ ?_) | refine rnd_succ ?_ | refine wk ?_ | refine wc ?_ ?_ <;> intro h <;> try omega | refine l_qs (by (apply c_loadOA; exact rfl; (repeat (first | exact CAt.here | apply CAt.there)); exact rfl; exact rfl; exact rfl)) rfl ?_ | refine d_qs rfl (by (apply c_loadOA; exact rfl; (repeat (first | exact CAt.here | apply CAt.there)); exact rfl; exact rfl; exact rfl)) rfl ?_ | refine d_gqs rfl rfl (by (apply c_loadOA; exact rfl; (repeat (first | exact CAt.here | apply CAt.there)); exact rfl; exact rfl; exact rfl)) rfl ?_ | refine l_qs (by (apply c_loadO; exact rfl; (repeat (first | exact CAt.here | apply CAt.there)); exact rfl; exact rfl; exact rfl)) rfl ?_ | refine d_qs rfl (by (apply c_loadO; exact rfl; (repeat (first | exact CAt.here | apply CAt.there)); exact rfl; exact rfl; exact rfl)) rfl ?_ | refine d_gqs rfl rfl (by (apply c_loadO; exact rfl; (repeat (first | exact CAt.here | apply CAt.there)); exact rfl; exact rfl; exact rfl)) rfl ?_ | (refine n_eff ?_ ?_; · (repeat first | refine wre ?_ | refine r_cons rfl (by first | (apply c_loadOA; exact rfl; (repeat (first | exact CAt.here | apply CAt.there)); exact rfl; exact rfl; exact rfl) | (apply c_loadO; exact rfl; (repeat (first | exact CAt.here | apply CAt.there)); exact rfl; exact rfl; exact rfl) | fail) rfl ?_ | refine r_gcons rfl rfl (by first | (apply c_loadOA; exact rfl; (repeat (first | exact CAt.here | apply CAt.there)); exact rfl; exact rfl; exact rfl) | (apply c_loadO; exact rfl; (repeat (first | exact CAt.here | apply CAt.there)); exact rfl; exact rfl; exact rfl) | fail) rfl ?_ | exact r_nil | fail)) | fail
 refine o_alloc rfl rfl fun s1 => ?_
 repeat' first | refine wk ?_ | refine wc ?_ ?_ <;> intro h <;> try omega | fail
 refine t_midQ (fun q : Option Addr × Nat => [(1, .pointer (some ⟨jb, 0, none⟩)), (6, .slice q.1 92 q.2), (65, .slice (some ⟨gb, 0, none⟩) 1 gc), (66, .int .i64 1), (67, .int .i64 0), (76, .slice (some ⟨ob, 0, none⟩) 1 1), (77, .int .i64 1), (78, .int .i64 0), (93, .slice (some ⟨pb, 0, none⟩) 2 pc), (94, .int .i64 2), (95, .int .i64 0)]) (fun q => [byC q.1 92 q.2, cellsAt jb 197 [.int .i64 7, .int .i64 (g : Int), .int .i64 (r : Int), .int .i64 (c : Int), .int .i64 2, .int .i64 6, .int .i64 6, .slice none 0 0, .slice (some ⟨gb, 0, none⟩) 1 gc, .slice none 0 0], own (some ⟨gb, 0, none⟩) 1 gc 269 1 [[.slice (some ⟨ob, 0, none⟩) 1 1]], own (some ⟨ob, 0, none⟩) 1 oc 276 2 [[.int .i64 0, .slice (some ⟨pb, 0, none⟩) 2 pc]], own (some ⟨pb, 0, none⟩) 2 pc 85 3 awLV]) (fun _ => True) ?_ (fun hl he k => t_weaken hl he k) ?_
 ·refine t_draw (id := 23) (.eval 0 true (.eval 1 true (.eval 2 false (.eval 5 true (.eval 6 false (.eval 9 true (.eval 10 false q174_23_0))))))) rfl (by kernel_rfl) ?_
  repeat' first | refine wev ?_ | fail
  refine d_gen fun l Q hl hQ => ?_
  have Lx3x4x7x8x11x12x13 : ∀ (u3 : Nat) (e4 : Option Addr) (f4 : Nat) (u7 : Nat) (e8 : Option Addr) (f8 : Nat) (u11 : Nat) (e12 : Option Addr) (f12 : Nat), TD Tryz.prog 119 l q174_23_x3x4x7x8x11x12x13 [] [(102, .slice (some ⟨u3, 0, none⟩) 1 1), (103, .slice e4 87 f4), (106, .slice (some ⟨u7, 0, none⟩) 1 1), (107, .slice e8 91 f8), (110, .slice (some ⟨u11, 0, none⟩) 1 1), (111, .slice e12 92 f12), (6, .slice e12 92 f12), (100, .pointer (some ⟨s1, 0, none⟩)), (104, .pointer (some ⟨s1, 1, none⟩)), (108, .pointer (some ⟨s1, 2, none⟩)), (109, .int .i64 2), (105, .int .i64 0), (101, .int .i64 1), (99, .slice a7 86 c7), (1, .pointer (some ⟨jb, 0, none⟩)), (65, .slice (some ⟨gb, 0, none⟩) 1 gc), (66, .int .i64 1), (67, .int .i64 0), (76, .slice (some ⟨ob, 0, none⟩) 1 1), (77, .int .i64 1), (78, .int .i64 0), (93, .slice (some ⟨pb, 0, none⟩) 2 pc), (94, .int .i64 2), (95, .int .i64 0)] [cellsAt s1 85 [.int .i64 1, .int .i64 0, .int .i64 2], cellsAt jb 197 [.int .i64 7, .int .i64 (g : Int), .int .i64 (r : Int), .int .i64 (c : Int), .int .i64 2, .int .i64 6, .int .i64 6, .slice none 0 0, .slice (some ⟨gb, 0, none⟩) 1 gc, .slice none 0 0], own (some ⟨gb, 0, none⟩) 1 gc 269 1 [[.slice (some ⟨ob, 0, none⟩) 1 1]], own (some ⟨ob, 0, none⟩) 1 oc 276 2 [[.int .i64 0, .slice (some ⟨pb, 0, none⟩) 2 pc]], own (some ⟨pb, 0, none⟩) 2 pc 85 3 awLV, byC e12 92 f12] Q := by
   intro u3 e4 f4 u7 e8 f8 u11 e12 f12
   subst hl; subst hQ
   refine d_fin ?_
   exact ⟨rfl, (_, _), trivial, xlss, Ent.pick xpkd⟩
  have Lx3x4x7x8x11x12 : ∀ (u3 : Nat) (e4 : Option Addr) (f4 : Nat) (u7 : Nat) (e8 : Option Addr) (f8 : Nat) (u11 : Nat) (e12 : Option Addr) (f12 : Nat), TD Tryz.prog 119 l q174_23_x3x4x7x8x11x12 [] [(102, .slice (some ⟨u3, 0, none⟩) 1 1), (103, .slice e4 87 f4), (106, .slice (some ⟨u7, 0, none⟩) 1 1), (107, .slice e8 91 f8), (110, .slice (some ⟨u11, 0, none⟩) 1 1), (111, .slice e12 92 f12), (100, .pointer (some ⟨s1, 0, none⟩)), (104, .pointer (some ⟨s1, 1, none⟩)), (108, .pointer (some ⟨s1, 2, none⟩)), (109, .int .i64 2), (105, .int .i64 0), (101, .int .i64 1), (99, .slice a7 86 c7), (1, .pointer (some ⟨jb, 0, none⟩)), (65, .slice (some ⟨gb, 0, none⟩) 1 gc), (66, .int .i64 1), (67, .int .i64 0), (76, .slice (some ⟨ob, 0, none⟩) 1 1), (77, .int .i64 1), (78, .int .i64 0), (93, .slice (some ⟨pb, 0, none⟩) 2 pc), (94, .int .i64 2), (95, .int .i64 0)] [cellsAt s1 85 [.int .i64 1, .int .i64 0, .int .i64 2], cellsAt jb 197 [.int .i64 7, .int .i64 (g : Int), .int .i64 (r : Int), .int .i64 (c : Int), .int .i64 2, .int .i64 6, .int .i64 6, .slice none 0 0, .slice (some ⟨gb, 0, none⟩) 1 gc, .slice none 0 0], own (some ⟨gb, 0, none⟩) 1 gc 269 1 [[.slice (some ⟨ob, 0, none⟩) 1 1]], own (some ⟨ob, 0, none⟩) 1 oc 276 2 [[.int .i64 0, .slice (some ⟨pb, 0, none⟩) 2 pc]], own (some ⟨pb, 0, none⟩) 2 pc 85 3 awLV, byC e12 92 f12] Q := by
   intro u3 e4 f4 u7 e8 f8 u11 e12 f12
   subst hl; subst hQ
   refine d_eff rfl ?_ d_stop
   ·refine wk ?_
    repeat' first | refine wev ?_ | fail
    exact d_weak xlss (Ent.pick xpkd) (Lx3x4x7x8x11x12x13 _ _ _ _ _ _ _ _ _)
  have Lx3x4x7x8x11 : ∀ (u3 : Nat) (e4 : Option Addr) (f4 : Nat) (u7 : Nat) (e8 : Option Addr) (f8 : Nat) (u11 : Nat), TD Tryz.prog 119 l q174_23_x3x4x7x8x11 [] [(102, .slice (some ⟨u3, 0, none⟩) 1 1), (103, .slice e4 87 f4), (106, .slice (some ⟨u7, 0, none⟩) 1 1), (107, .slice e8 91 f8), (110, .slice (some ⟨u11, 0, none⟩) 1 1), (100, .pointer (some ⟨s1, 0, none⟩)), (104, .pointer (some ⟨s1, 1, none⟩)), (108, .pointer (some ⟨s1, 2, none⟩)), (109, .int .i64 2), (105, .int .i64 0), (101, .int .i64 1), (99, .slice a7 86 c7), (1, .pointer (some ⟨jb, 0, none⟩)), (65, .slice (some ⟨gb, 0, none⟩) 1 gc), (66, .int .i64 1), (67, .int .i64 0), (76, .slice (some ⟨ob, 0, none⟩) 1 1), (77, .int .i64 1), (78, .int .i64 0), (93, .slice (some ⟨pb, 0, none⟩) 2 pc), (94, .int .i64 2), (95, .int .i64 0)] [cellsAt s1 85 [.int .i64 1, .int .i64 0, .int .i64 2], cellsAt jb 197 [.int .i64 7, .int .i64 (g : Int), .int .i64 (r : Int), .int .i64 (c : Int), .int .i64 2, .int .i64 6, .int .i64 6, .slice none 0 0, .slice (some ⟨gb, 0, none⟩) 1 gc, .slice none 0 0], own (some ⟨gb, 0, none⟩) 1 gc 269 1 [[.slice (some ⟨ob, 0, none⟩) 1 1]], own (some ⟨ob, 0, none⟩) 1 oc 276 2 [[.int .i64 0, .slice (some ⟨pb, 0, none⟩) 2 pc]], own (some ⟨pb, 0, none⟩) 2 pc 85 3 awLV, byC e8 91 f8, own (some ⟨u11, 0, none⟩) 1 1 3 1 (natsV [2])] Q := by
   intro u3 e4 f4 u7 e8 f8 u11
   subst hl; subst hQ
   refine d_eff rfl ?_ d_stop
   ·refine c_call (p91 _ _ _ _) rfl xpkd rfl rfl ?_
    rintro v S ⟨_, _, rfl, rfl⟩
    refine l_tell rfl ?_
    repeat' first | refine wev ?_ | fail
    exact d_weak xlss (Ent.pick xpkd) (Lx3x4x7x8x11x12 _ _ _ _ _ _ _ _ _)
  have Lx3x4x7x8 : ∀ (u3 : Nat) (e4 : Option Addr) (f4 : Nat) (u7 : Nat) (e8 : Option Addr) (f8 : Nat), TD Tryz.prog 119 l q174_23_x3x4x7x8 [] [(102, .slice (some ⟨u3, 0, none⟩) 1 1), (103, .slice e4 87 f4), (106, .slice (some ⟨u7, 0, none⟩) 1 1), (107, .slice e8 91 f8), (100, .pointer (some ⟨s1, 0, none⟩)), (104, .pointer (some ⟨s1, 1, none⟩)), (108, .pointer (some ⟨s1, 2, none⟩)), (109, .int .i64 2), (105, .int .i64 0), (101, .int .i64 1), (99, .slice a7 86 c7), (1, .pointer (some ⟨jb, 0, none⟩)), (65, .slice (some ⟨gb, 0, none⟩) 1 gc), (66, .int .i64 1), (67, .int .i64 0), (76, .slice (some ⟨ob, 0, none⟩) 1 1), (77, .int .i64 1), (78, .int .i64 0), (93, .slice (some ⟨pb, 0, none⟩) 2 pc), (94, .int .i64 2), (95, .int .i64 0)] [cellsAt s1 85 [.int .i64 1, .int .i64 0, .int .i64 2], cellsAt jb 197 [.int .i64 7, .int .i64 (g : Int), .int .i64 (r : Int), .int .i64 (c : Int), .int .i64 2, .int .i64 6, .int .i64 6, .slice none 0 0, .slice (some ⟨gb, 0, none⟩) 1 gc, .slice none 0 0], own (some ⟨gb, 0, none⟩) 1 gc 269 1 [[.slice (some ⟨ob, 0, none⟩) 1 1]], own (some ⟨ob, 0, none⟩) 1 oc 276 2 [[.int .i64 0, .slice (some ⟨pb, 0, none⟩) 2 pc]], own (some ⟨pb, 0, none⟩) 2 pc 85 3 awLV, byC e8 91 f8] Q := by
   intro u3 e4 f4 u7 e8 f8
   subst hl; subst hQ
   refine d_eff rfl ?_ d_stop
   ·refine o_buildSlice rfl rfl rfl rfl rfl rfl rfl rfl rfl rfl rfl rfl fun b => ?_
    repeat' first | refine wev ?_ | fail
    exact d_weak xlss (Ent.pick xpkd) (Lx3x4x7x8x11 _ _ _ _ _ _ _)
  have Lx3x4x7x11 : ∀ (u3 : Nat) (e4 : Option Addr) (f4 : Nat) (u7 : Nat) (u11 : Nat), TD Tryz.prog 119 l q174_23_x3x4x7x11 [] [(102, .slice (some ⟨u3, 0, none⟩) 1 1), (103, .slice e4 87 f4), (106, .slice (some ⟨u7, 0, none⟩) 1 1), (110, .slice (some ⟨u11, 0, none⟩) 1 1), (100, .pointer (some ⟨s1, 0, none⟩)), (104, .pointer (some ⟨s1, 1, none⟩)), (108, .pointer (some ⟨s1, 2, none⟩)), (109, .int .i64 2), (105, .int .i64 0), (101, .int .i64 1), (99, .slice a7 86 c7), (1, .pointer (some ⟨jb, 0, none⟩)), (65, .slice (some ⟨gb, 0, none⟩) 1 gc), (66, .int .i64 1), (67, .int .i64 0), (76, .slice (some ⟨ob, 0, none⟩) 1 1), (77, .int .i64 1), (78, .int .i64 0), (93, .slice (some ⟨pb, 0, none⟩) 2 pc), (94, .int .i64 2), (95, .int .i64 0)] [cellsAt s1 85 [.int .i64 1, .int .i64 0, .int .i64 2], cellsAt jb 197 [.int .i64 7, .int .i64 (g : Int), .int .i64 (r : Int), .int .i64 (c : Int), .int .i64 2, .int .i64 6, .int .i64 6, .slice none 0 0, .slice (some ⟨gb, 0, none⟩) 1 gc, .slice none 0 0], own (some ⟨gb, 0, none⟩) 1 gc 269 1 [[.slice (some ⟨ob, 0, none⟩) 1 1]], own (some ⟨ob, 0, none⟩) 1 oc 276 2 [[.int .i64 0, .slice (some ⟨pb, 0, none⟩) 2 pc]], own (some ⟨pb, 0, none⟩) 2 pc 85 3 awLV, byC e4 87 f4, own (some ⟨u7, 0, none⟩) 1 1 3 1 (natsV [0]), own (some ⟨u11, 0, none⟩) 1 1 3 1 (natsV [2])] Q := by
   intro u3 e4 f4 u7 u11
   subst hl; subst hQ
   refine d_eff rfl ?_ d_stop
   ·refine c_call (p87 _ _ _ _) rfl xpkd rfl rfl ?_
    rintro v S ⟨_, _, rfl, rfl⟩
    refine l_tell rfl ?_
    repeat' first | refine wev ?_ | fail
    exact d_weak xlss (Ent.pick xpkd) (Lx3x4x7x8x11 _ _ _ _ _ _ _)
  have Lx3x4x7 : ∀ (u3 : Nat) (e4 : Option Addr) (f4 : Nat) (u7 : Nat), TD Tryz.prog 119 l q174_23_x3x4x7 [] [(102, .slice (some ⟨u3, 0, none⟩) 1 1), (103, .slice e4 87 f4), (106, .slice (some ⟨u7, 0, none⟩) 1 1), (100, .pointer (some ⟨s1, 0, none⟩)), (104, .pointer (some ⟨s1, 1, none⟩)), (108, .pointer (some ⟨s1, 2, none⟩)), (109, .int .i64 2), (105, .int .i64 0), (101, .int .i64 1), (99, .slice a7 86 c7), (1, .pointer (some ⟨jb, 0, none⟩)), (65, .slice (some ⟨gb, 0, none⟩) 1 gc), (66, .int .i64 1), (67, .int .i64 0), (76, .slice (some ⟨ob, 0, none⟩) 1 1), (77, .int .i64 1), (78, .int .i64 0), (93, .slice (some ⟨pb, 0, none⟩) 2 pc), (94, .int .i64 2), (95, .int .i64 0)] [cellsAt s1 85 [.int .i64 1, .int .i64 0, .int .i64 2], cellsAt jb 197 [.int .i64 7, .int .i64 (g : Int), .int .i64 (r : Int), .int .i64 (c : Int), .int .i64 2, .int .i64 6, .int .i64 6, .slice none 0 0, .slice (some ⟨gb, 0, none⟩) 1 gc, .slice none 0 0], own (some ⟨gb, 0, none⟩) 1 gc 269 1 [[.slice (some ⟨ob, 0, none⟩) 1 1]], own (some ⟨ob, 0, none⟩) 1 oc 276 2 [[.int .i64 0, .slice (some ⟨pb, 0, none⟩) 2 pc]], own (some ⟨pb, 0, none⟩) 2 pc 85 3 awLV, byC e4 87 f4, own (some ⟨u7, 0, none⟩) 1 1 3 1 (natsV [0])] Q := by
   intro u3 e4 f4 u7
   subst hl; subst hQ
   refine d_eff rfl ?_ ?_
   ·refine c_call (p87 _ _ _ _) rfl xpkd rfl rfl ?_
    rintro v S ⟨_, _, rfl, rfl⟩
    refine l_tell rfl ?_
    repeat' first | refine wev ?_ | fail
    exact d_weak xlss (Ent.pick xpkd) (Lx3x4x7x8 _ _ _ _ _ _)
   refine d_eff rfl ?_ d_stop
   ·refine o_buildSlice rfl rfl rfl rfl rfl rfl rfl rfl rfl rfl rfl rfl fun b => ?_
    repeat' first | refine wev ?_ | fail
    exact d_weak xlss (Ent.pick xpkd) (Lx3x4x7x11 _ _ _ _ _)
  have Lx3x4x11 : ∀ (u3 : Nat) (e4 : Option Addr) (f4 : Nat) (u11 : Nat), TD Tryz.prog 119 l q174_23_x3x4x11 [] [(102, .slice (some ⟨u3, 0, none⟩) 1 1), (103, .slice e4 87 f4), (110, .slice (some ⟨u11, 0, none⟩) 1 1), (100, .pointer (some ⟨s1, 0, none⟩)), (104, .pointer (some ⟨s1, 1, none⟩)), (108, .pointer (some ⟨s1, 2, none⟩)), (109, .int .i64 2), (105, .int .i64 0), (101, .int .i64 1), (99, .slice a7 86 c7), (1, .pointer (some ⟨jb, 0, none⟩)), (65, .slice (some ⟨gb, 0, none⟩) 1 gc), (66, .int .i64 1), (67, .int .i64 0), (76, .slice (some ⟨ob, 0, none⟩) 1 1), (77, .int .i64 1), (78, .int .i64 0), (93, .slice (some ⟨pb, 0, none⟩) 2 pc), (94, .int .i64 2), (95, .int .i64 0)] [cellsAt s1 85 [.int .i64 1, .int .i64 0, .int .i64 2], cellsAt jb 197 [.int .i64 7, .int .i64 (g : Int), .int .i64 (r : Int), .int .i64 (c : Int), .int .i64 2, .int .i64 6, .int .i64 6, .slice none 0 0, .slice (some ⟨gb, 0, none⟩) 1 gc, .slice none 0 0], own (some ⟨gb, 0, none⟩) 1 gc 269 1 [[.slice (some ⟨ob, 0, none⟩) 1 1]], own (some ⟨ob, 0, none⟩) 1 oc 276 2 [[.int .i64 0, .slice (some ⟨pb, 0, none⟩) 2 pc]], own (some ⟨pb, 0, none⟩) 2 pc 85 3 awLV, byC e4 87 f4, own (some ⟨u11, 0, none⟩) 1 1 3 1 (natsV [2])] Q := by
   intro u3 e4 f4 u11
   subst hl; subst hQ
   refine d_eff rfl ?_ d_stop
   ·refine o_buildSlice rfl rfl rfl rfl rfl rfl rfl rfl rfl rfl rfl rfl fun b => ?_
    repeat' first | refine wev ?_ | fail
    exact d_weak xlss (Ent.pick xpkd) (Lx3x4x7x11 _ _ _ _ _)
  have Lx3x4 : ∀ (u3 : Nat) (e4 : Option Addr) (f4 : Nat), TD Tryz.prog 119 l q174_23_x3x4 [] [(102, .slice (some ⟨u3, 0, none⟩) 1 1), (103, .slice e4 87 f4), (100, .pointer (some ⟨s1, 0, none⟩)), (104, .pointer (some ⟨s1, 1, none⟩)), (108, .pointer (some ⟨s1, 2, none⟩)), (109, .int .i64 2), (105, .int .i64 0), (101, .int .i64 1), (99, .slice a7 86 c7), (1, .pointer (some ⟨jb, 0, none⟩)), (65, .slice (some ⟨gb, 0, none⟩) 1 gc), (66, .int .i64 1), (67, .int .i64 0), (76, .slice (some ⟨ob, 0, none⟩) 1 1), (77, .int .i64 1), (78, .int .i64 0), (93, .slice (some ⟨pb, 0, none⟩) 2 pc), (94, .int .i64 2), (95, .int .i64 0)] [cellsAt s1 85 [.int .i64 1, .int .i64 0, .int .i64 2], cellsAt jb 197 [.int .i64 7, .int .i64 (g : Int), .int .i64 (r : Int), .int .i64 (c : Int), .int .i64 2, .int .i64 6, .int .i64 6, .slice none 0 0, .slice (some ⟨gb, 0, none⟩) 1 gc, .slice none 0 0], own (some ⟨gb, 0, none⟩) 1 gc 269 1 [[.slice (some ⟨ob, 0, none⟩) 1 1]], own (some ⟨ob, 0, none⟩) 1 oc 276 2 [[.int .i64 0, .slice (some ⟨pb, 0, none⟩) 2 pc]], own (some ⟨pb, 0, none⟩) 2 pc 85 3 awLV, byC e4 87 f4] Q := by
   intro u3 e4 f4
   subst hl; subst hQ
   refine d_eff rfl ?_ ?_
   ·refine o_buildSlice rfl rfl rfl rfl rfl rfl rfl rfl rfl rfl rfl rfl fun b => ?_
    repeat' first | refine wev ?_ | fail
    exact d_weak xlss (Ent.pick xpkd) (Lx3x4x7 _ _ _ _)
   refine d_eff rfl ?_ d_stop
   ·refine o_buildSlice rfl rfl rfl rfl rfl rfl rfl rfl rfl rfl rfl rfl fun b => ?_
    repeat' first | refine wev ?_ | fail
    exact d_weak xlss (Ent.pick xpkd) (Lx3x4x11 _ _ _ _)
  have Lx3x7x11 : ∀ (u3 : Nat) (u7 : Nat) (u11 : Nat), TD Tryz.prog 119 l q174_23_x3x7x11 [] [(102, .slice (some ⟨u3, 0, none⟩) 1 1), (106, .slice (some ⟨u7, 0, none⟩) 1 1), (110, .slice (some ⟨u11, 0, none⟩) 1 1), (100, .pointer (some ⟨s1, 0, none⟩)), (104, .pointer (some ⟨s1, 1, none⟩)), (108, .pointer (some ⟨s1, 2, none⟩)), (109, .int .i64 2), (105, .int .i64 0), (101, .int .i64 1), (99, .slice a7 86 c7), (1, .pointer (some ⟨jb, 0, none⟩)), (65, .slice (some ⟨gb, 0, none⟩) 1 gc), (66, .int .i64 1), (67, .int .i64 0), (76, .slice (some ⟨ob, 0, none⟩) 1 1), (77, .int .i64 1), (78, .int .i64 0), (93, .slice (some ⟨pb, 0, none⟩) 2 pc), (94, .int .i64 2), (95, .int .i64 0)] [byC a7 86 c7, cellsAt s1 85 [.int .i64 1, .int .i64 0, .int .i64 2], cellsAt jb 197 [.int .i64 7, .int .i64 (g : Int), .int .i64 (r : Int), .int .i64 (c : Int), .int .i64 2, .int .i64 6, .int .i64 6, .slice none 0 0, .slice (some ⟨gb, 0, none⟩) 1 gc, .slice none 0 0], own (some ⟨gb, 0, none⟩) 1 gc 269 1 [[.slice (some ⟨ob, 0, none⟩) 1 1]], own (some ⟨ob, 0, none⟩) 1 oc 276 2 [[.int .i64 0, .slice (some ⟨pb, 0, none⟩) 2 pc]], own (some ⟨pb, 0, none⟩) 2 pc 85 3 awLV, own (some ⟨u3, 0, none⟩) 1 1 3 1 (natsV [1]), own (some ⟨u7, 0, none⟩) 1 1 3 1 (natsV [0]), own (some ⟨u11, 0, none⟩) 1 1 3 1 (natsV [2])] Q := by
   intro u3 u7 u11
   subst hl; subst hQ
   refine d_eff rfl ?_ d_stop
   ·refine c_call (p86 _ _ _ _) rfl xpkd rfl rfl ?_
    rintro v S ⟨_, _, rfl, rfl⟩
    refine l_tell rfl ?_
    repeat' first | refine wev ?_ | fail
    exact d_weak xlss (Ent.pick xpkd) (Lx3x4x7x11 _ _ _ _ _)
  have Lx3x7 : ∀ (u3 : Nat) (u7 : Nat), TD Tryz.prog 119 l q174_23_x3x7 [] [(102, .slice (some ⟨u3, 0, none⟩) 1 1), (106, .slice (some ⟨u7, 0, none⟩) 1 1), (100, .pointer (some ⟨s1, 0, none⟩)), (104, .pointer (some ⟨s1, 1, none⟩)), (108, .pointer (some ⟨s1, 2, none⟩)), (109, .int .i64 2), (105, .int .i64 0), (101, .int .i64 1), (99, .slice a7 86 c7), (1, .pointer (some ⟨jb, 0, none⟩)), (65, .slice (some ⟨gb, 0, none⟩) 1 gc), (66, .int .i64 1), (67, .int .i64 0), (76, .slice (some ⟨ob, 0, none⟩) 1 1), (77, .int .i64 1), (78, .int .i64 0), (93, .slice (some ⟨pb, 0, none⟩) 2 pc), (94, .int .i64 2), (95, .int .i64 0)] [byC a7 86 c7, cellsAt s1 85 [.int .i64 1, .int .i64 0, .int .i64 2], cellsAt jb 197 [.int .i64 7, .int .i64 (g : Int), .int .i64 (r : Int), .int .i64 (c : Int), .int .i64 2, .int .i64 6, .int .i64 6, .slice none 0 0, .slice (some ⟨gb, 0, none⟩) 1 gc, .slice none 0 0], own (some ⟨gb, 0, none⟩) 1 gc 269 1 [[.slice (some ⟨ob, 0, none⟩) 1 1]], own (some ⟨ob, 0, none⟩) 1 oc 276 2 [[.int .i64 0, .slice (some ⟨pb, 0, none⟩) 2 pc]], own (some ⟨pb, 0, none⟩) 2 pc 85 3 awLV, own (some ⟨u3, 0, none⟩) 1 1 3 1 (natsV [1]), own (some ⟨u7, 0, none⟩) 1 1 3 1 (natsV [0])] Q := by
   intro u3 u7
   subst hl; subst hQ
   refine d_eff rfl ?_ ?_
   ·refine c_call (p86 _ _ _ _) rfl xpkd rfl rfl ?_
    rintro v S ⟨_, _, rfl, rfl⟩
    refine l_tell rfl ?_
    repeat' first | refine wev ?_ | fail
    exact d_weak xlss (Ent.pick xpkd) (Lx3x4x7 _ _ _ _)
   refine d_eff rfl ?_ d_stop
   ·refine o_buildSlice rfl rfl rfl rfl rfl rfl rfl rfl rfl rfl rfl rfl fun b => ?_
    repeat' first | refine wev ?_ | fail
    exact d_weak xlss (Ent.pick xpkd) (Lx3x7x11 _ _ _)
  have Lx3x11 : ∀ (u3 : Nat) (u11 : Nat), TD Tryz.prog 119 l q174_23_x3x11 [] [(102, .slice (some ⟨u3, 0, none⟩) 1 1), (110, .slice (some ⟨u11, 0, none⟩) 1 1), (100, .pointer (some ⟨s1, 0, none⟩)), (104, .pointer (some ⟨s1, 1, none⟩)), (108, .pointer (some ⟨s1, 2, none⟩)), (109, .int .i64 2), (105, .int .i64 0), (101, .int .i64 1), (99, .slice a7 86 c7), (1, .pointer (some ⟨jb, 0, none⟩)), (65, .slice (some ⟨gb, 0, none⟩) 1 gc), (66, .int .i64 1), (67, .int .i64 0), (76, .slice (some ⟨ob, 0, none⟩) 1 1), (77, .int .i64 1), (78, .int .i64 0), (93, .slice (some ⟨pb, 0, none⟩) 2 pc), (94, .int .i64 2), (95, .int .i64 0)] [byC a7 86 c7, cellsAt s1 85 [.int .i64 1, .int .i64 0, .int .i64 2], cellsAt jb 197 [.int .i64 7, .int .i64 (g : Int), .int .i64 (r : Int), .int .i64 (c : Int), .int .i64 2, .int .i64 6, .int .i64 6, .slice none 0 0, .slice (some ⟨gb, 0, none⟩) 1 gc, .slice none 0 0], own (some ⟨gb, 0, none⟩) 1 gc 269 1 [[.slice (some ⟨ob, 0, none⟩) 1 1]], own (some ⟨ob, 0, none⟩) 1 oc 276 2 [[.int .i64 0, .slice (some ⟨pb, 0, none⟩) 2 pc]], own (some ⟨pb, 0, none⟩) 2 pc 85 3 awLV, own (some ⟨u3, 0, none⟩) 1 1 3 1 (natsV [1]), own (some ⟨u11, 0, none⟩) 1 1 3 1 (natsV [2])] Q := by
   intro u3 u11
   subst hl; subst hQ
   refine d_eff rfl ?_ ?_
   ·refine c_call (p86 _ _ _ _) rfl xpkd rfl rfl ?_
    rintro v S ⟨_, _, rfl, rfl⟩
    refine l_tell rfl ?_
    repeat' first | refine wev ?_ | fail
    exact d_weak xlss (Ent.pick xpkd) (Lx3x4x11 _ _ _ _)
   refine d_eff rfl ?_ d_stop
   ·refine o_buildSlice rfl rfl rfl rfl rfl rfl rfl rfl rfl rfl rfl rfl fun b => ?_
    repeat' first | refine wev ?_ | fail
    exact d_weak xlss (Ent.pick xpkd) (Lx3x7x11 _ _ _)
  have Lx3 : ∀ (u3 : Nat), TD Tryz.prog 119 l q174_23_x3 [] [(102, .slice (some ⟨u3, 0, none⟩) 1 1), (100, .pointer (some ⟨s1, 0, none⟩)), (104, .pointer (some ⟨s1, 1, none⟩)), (108, .pointer (some ⟨s1, 2, none⟩)), (109, .int .i64 2), (105, .int .i64 0), (101, .int .i64 1), (99, .slice a7 86 c7), (1, .pointer (some ⟨jb, 0, none⟩)), (65, .slice (some ⟨gb, 0, none⟩) 1 gc), (66, .int .i64 1), (67, .int .i64 0), (76, .slice (some ⟨ob, 0, none⟩) 1 1), (77, .int .i64 1), (78, .int .i64 0), (93, .slice (some ⟨pb, 0, none⟩) 2 pc), (94, .int .i64 2), (95, .int .i64 0)] [byC a7 86 c7, cellsAt s1 85 [.int .i64 1, .int .i64 0, .int .i64 2], cellsAt jb 197 [.int .i64 7, .int .i64 (g : Int), .int .i64 (r : Int), .int .i64 (c : Int), .int .i64 2, .int .i64 6, .int .i64 6, .slice none 0 0, .slice (some ⟨gb, 0, none⟩) 1 gc, .slice none 0 0], own (some ⟨gb, 0, none⟩) 1 gc 269 1 [[.slice (some ⟨ob, 0, none⟩) 1 1]], own (some ⟨ob, 0, none⟩) 1 oc 276 2 [[.int .i64 0, .slice (some ⟨pb, 0, none⟩) 2 pc]], own (some ⟨pb, 0, none⟩) 2 pc 85 3 awLV, own (some ⟨u3, 0, none⟩) 1 1 3 1 (natsV [1])] Q := by
   intro u3
   subst hl; subst hQ
   refine d_eff rfl ?_ ?_
   ·refine c_call (p86 _ _ _ _) rfl xpkd rfl rfl ?_
    rintro v S ⟨_, _, rfl, rfl⟩
    refine l_tell rfl ?_
    repeat' first | refine wev ?_ | fail
    exact d_weak xlss (Ent.pick xpkd) (Lx3x4 _ _ _)
   refine d_eff rfl ?_ ?_
   ·refine o_buildSlice rfl rfl rfl rfl rfl rfl rfl rfl rfl rfl rfl rfl fun b => ?_
    repeat' first | refine wev ?_ | fail
    exact d_weak xlss (Ent.pick xpkd) (Lx3x7 _ _)
   refine d_eff rfl ?_ d_stop
   ·refine o_buildSlice rfl rfl rfl rfl rfl rfl rfl rfl rfl rfl rfl rfl fun b => ?_
    repeat' first | refine wev ?_ | fail
    exact d_weak xlss (Ent.pick xpkd) (Lx3x11 _ _)
  have Lx7x11 : ∀ (u7 : Nat) (u11 : Nat), TD Tryz.prog 119 l q174_23_x7x11 [] [(106, .slice (some ⟨u7, 0, none⟩) 1 1), (110, .slice (some ⟨u11, 0, none⟩) 1 1), (100, .pointer (some ⟨s1, 0, none⟩)), (104, .pointer (some ⟨s1, 1, none⟩)), (108, .pointer (some ⟨s1, 2, none⟩)), (109, .int .i64 2), (105, .int .i64 0), (101, .int .i64 1), (99, .slice a7 86 c7), (1, .pointer (some ⟨jb, 0, none⟩)), (65, .slice (some ⟨gb, 0, none⟩) 1 gc), (66, .int .i64 1), (67, .int .i64 0), (76, .slice (some ⟨ob, 0, none⟩) 1 1), (77, .int .i64 1), (78, .int .i64 0), (93, .slice (some ⟨pb, 0, none⟩) 2 pc), (94, .int .i64 2), (95, .int .i64 0)] [byC a7 86 c7, cellsAt s1 85 [.int .i64 1, .int .i64 0, .int .i64 2], cellsAt jb 197 [.int .i64 7, .int .i64 (g : Int), .int .i64 (r : Int), .int .i64 (c : Int), .int .i64 2, .int .i64 6, .int .i64 6, .slice none 0 0, .slice (some ⟨gb, 0, none⟩) 1 gc, .slice none 0 0], own (some ⟨gb, 0, none⟩) 1 gc 269 1 [[.slice (some ⟨ob, 0, none⟩) 1 1]], own (some ⟨ob, 0, none⟩) 1 oc 276 2 [[.int .i64 0, .slice (some ⟨pb, 0, none⟩) 2 pc]], own (some ⟨pb, 0, none⟩) 2 pc 85 3 awLV, own (some ⟨u7, 0, none⟩) 1 1 3 1 (natsV [0]), own (some ⟨u11, 0, none⟩) 1 1 3 1 (natsV [2])] Q := by
   intro u7 u11
   subst hl; subst hQ
   refine d_eff rfl ?_ d_stop
   ·refine o_buildSlice rfl rfl rfl rfl rfl rfl rfl rfl rfl rfl rfl rfl fun b => ?_
    repeat' first | refine wev ?_ | fail
    exact d_weak xlss (Ent.pick xpkd) (Lx3x7x11 _ _ _)
  have Lx7 : ∀ (u7 : Nat), TD Tryz.prog 119 l q174_23_x7 [] [(106, .slice (some ⟨u7, 0, none⟩) 1 1), (100, .pointer (some ⟨s1, 0, none⟩)), (104, .pointer (some ⟨s1, 1, none⟩)), (108, .pointer (some ⟨s1, 2, none⟩)), (109, .int .i64 2), (105, .int .i64 0), (101, .int .i64 1), (99, .slice a7 86 c7), (1, .pointer (some ⟨jb, 0, none⟩)), (65, .slice (some ⟨gb, 0, none⟩) 1 gc), (66, .int .i64 1), (67, .int .i64 0), (76, .slice (some ⟨ob, 0, none⟩) 1 1), (77, .int .i64 1), (78, .int .i64 0), (93, .slice (some ⟨pb, 0, none⟩) 2 pc), (94, .int .i64 2), (95, .int .i64 0)] [byC a7 86 c7, cellsAt s1 85 [.int .i64 1, .int .i64 0, .int .i64 2], cellsAt jb 197 [.int .i64 7, .int .i64 (g : Int), .int .i64 (r : Int), .int .i64 (c : Int), .int .i64 2, .int .i64 6, .int .i64 6, .slice none 0 0, .slice (some ⟨gb, 0, none⟩) 1 gc, .slice none 0 0], own (some ⟨gb, 0, none⟩) 1 gc 269 1 [[.slice (some ⟨ob, 0, none⟩) 1 1]], own (some ⟨ob, 0, none⟩) 1 oc 276 2 [[.int .i64 0, .slice (some ⟨pb, 0, none⟩) 2 pc]], own (some ⟨pb, 0, none⟩) 2 pc 85 3 awLV, own (some ⟨u7, 0, none⟩) 1 1 3 1 (natsV [0])] Q := by
   intro u7
   subst hl; subst hQ
   refine d_eff rfl ?_ ?_
   ·refine o_buildSlice rfl rfl rfl rfl rfl rfl rfl rfl rfl rfl rfl rfl fun b => ?_
    repeat' first | refine wev ?_ | fail
    exact d_weak xlss (Ent.pick xpkd) (Lx3x7 _ _)
   refine d_eff rfl ?_ d_stop
   ·refine o_buildSlice rfl rfl rfl rfl rfl rfl rfl rfl rfl rfl rfl rfl fun b => ?_
    repeat' first | refine wev ?_ | fail
    exact d_weak xlss (Ent.pick xpkd) (Lx7x11 _ _)
  have Lx11 : ∀ (u11 : Nat), TD Tryz.prog 119 l q174_23_x11 [] [(110, .slice (some ⟨u11, 0, none⟩) 1 1), (100, .pointer (some ⟨s1, 0, none⟩)), (104, .pointer (some ⟨s1, 1, none⟩)), (108, .pointer (some ⟨s1, 2, none⟩)), (109, .int .i64 2), (105, .int .i64 0), (101, .int .i64 1), (99, .slice a7 86 c7), (1, .pointer (some ⟨jb, 0, none⟩)), (65, .slice (some ⟨gb, 0, none⟩) 1 gc), (66, .int .i64 1), (67, .int .i64 0), (76, .slice (some ⟨ob, 0, none⟩) 1 1), (77, .int .i64 1), (78, .int .i64 0), (93, .slice (some ⟨pb, 0, none⟩) 2 pc), (94, .int .i64 2), (95, .int .i64 0)] [byC a7 86 c7, cellsAt s1 85 [.int .i64 1, .int .i64 0, .int .i64 2], cellsAt jb 197 [.int .i64 7, .int .i64 (g : Int), .int .i64 (r : Int), .int .i64 (c : Int), .int .i64 2, .int .i64 6, .int .i64 6, .slice none 0 0, .slice (some ⟨gb, 0, none⟩) 1 gc, .slice none 0 0], own (some ⟨gb, 0, none⟩) 1 gc 269 1 [[.slice (some ⟨ob, 0, none⟩) 1 1]], own (some ⟨ob, 0, none⟩) 1 oc 276 2 [[.int .i64 0, .slice (some ⟨pb, 0, none⟩) 2 pc]], own (some ⟨pb, 0, none⟩) 2 pc 85 3 awLV, own (some ⟨u11, 0, none⟩) 1 1 3 1 (natsV [2])] Q := by
   intro u11
   subst hl; subst hQ
   refine d_eff rfl ?_ ?_
   ·refine o_buildSlice rfl rfl rfl rfl rfl rfl rfl rfl rfl rfl rfl rfl fun b => ?_
    repeat' first | refine wev ?_ | fail
    exact d_weak xlss (Ent.pick xpkd) (Lx3x11 _ _)
   refine d_eff rfl ?_ d_stop
   ·refine o_buildSlice rfl rfl rfl rfl rfl rfl rfl rfl rfl rfl rfl rfl fun b => ?_
    repeat' first | refine wev ?_ | fail
    exact d_weak xlss (Ent.pick xpkd) (Lx7x11 _ _)
  have L0 : ∀ (_ : True), TD Tryz.prog 119 l q174_23_0 [] [(100, .pointer (some ⟨s1, 0, none⟩)), (104, .pointer (some ⟨s1, 1, none⟩)), (108, .pointer (some ⟨s1, 2, none⟩)), (109, .int .i64 2), (105, .int .i64 0), (101, .int .i64 1), (99, .slice a7 86 c7), (1, .pointer (some ⟨jb, 0, none⟩)), (65, .slice (some ⟨gb, 0, none⟩) 1 gc), (66, .int .i64 1), (67, .int .i64 0), (76, .slice (some ⟨ob, 0, none⟩) 1 1), (77, .int .i64 1), (78, .int .i64 0), (93, .slice (some ⟨pb, 0, none⟩) 2 pc), (94, .int .i64 2), (95, .int .i64 0)] [byC a7 86 c7, cellsAt s1 85 [.int .i64 1, .int .i64 0, .int .i64 2], cellsAt jb 197 [.int .i64 7, .int .i64 (g : Int), .int .i64 (r : Int), .int .i64 (c : Int), .int .i64 2, .int .i64 6, .int .i64 6, .slice none 0 0, .slice (some ⟨gb, 0, none⟩) 1 gc, .slice none 0 0], own (some ⟨gb, 0, none⟩) 1 gc 269 1 [[.slice (some ⟨ob, 0, none⟩) 1 1]], own (some ⟨ob, 0, none⟩) 1 oc 276 2 [[.int .i64 0, .slice (some ⟨pb, 0, none⟩) 2 pc]], own (some ⟨pb, 0, none⟩) 2 pc 85 3 awLV] Q := by
   intro _
   subst hl; subst hQ
   refine d_eff rfl ?_ ?_
   ·refine o_buildSlice rfl rfl rfl rfl rfl rfl rfl rfl rfl rfl rfl rfl fun b => ?_
    repeat' first | refine wev ?_ | fail
    exact d_weak xlss (Ent.pick xpkd) (Lx3 _)
   refine d_eff rfl ?_ ?_
   ·refine o_buildSlice rfl rfl rfl rfl rfl rfl rfl rfl rfl rfl rfl rfl fun b => ?_
    repeat' first | refine wev ?_ | fail
    exact d_weak xlss (Ent.pick xpkd) (Lx7 _)
   refine d_eff rfl ?_ d_stop
   ·refine o_buildSlice rfl rfl rfl rfl rfl rfl rfl rfl rfl rfl rfl rfl fun b => ?_
    repeat' first | refine wev ?_ | fail
    exact d_weak xlss (Ent.pick xpkd) (Lx11 _)
  exact d_weak xlss (Ent.pick xpkd) (L0 trivial)
 rintro ⟨a8, c8⟩ -
 dsimp only
 repeat' first | refine t_rounds 3 (rnd_succ ?_) | refine rnd_succ ?_ | refine pt_exit ?_ | refine pb_exit ?_ | refine wk ?_ | refine wc ?_ ?_ <;> intro h <;> try omega | refine l_qs (by (apply c_loadOA; exact rfl; (repeat (first | exact CAt.here | apply CAt.there)); exact rfl; exact rfl; exact rfl)) rfl ?_ | refine d_qs rfl (by (apply c_loadOA; exact rfl; (repeat (first | exact CAt.here | apply CAt.there)); exact rfl; exact rfl; exact rfl)) rfl ?_ | refine d_gqs rfl rfl (by (apply c_loadOA; exact rfl; (repeat (first | exact CAt.here | apply CAt.there)); exact rfl; exact rfl; exact rfl)) rfl ?_ | refine l_qs (by (apply c_loadO; exact rfl; (repeat (first | exact CAt.here | apply CAt.there)); exact rfl; exact rfl; exact rfl)) rfl ?_ | refine d_qs rfl (by (apply c_loadO; exact rfl; (repeat (first | exact CAt.here | apply CAt.there)); exact rfl; exact rfl; exact rfl)) rfl ?_ | refine d_gqs rfl rfl (by (apply c_loadO; exact rfl; (repeat (first | exact CAt.here | apply CAt.there)); exact rfl; exact rfl; exact rfl)) rfl ?_ | (refine n_eff ?_ ?_; · (repeat first | refine wre ?_ | refine r_cons rfl (by first | (apply c_loadOA; exact rfl; (repeat (first | exact CAt.here | apply CAt.there)); exact rfl; exact rfl; exact rfl) | (apply c_loadO; exact rfl; (repeat (first | exact CAt.here | apply CAt.there)); exact rfl; exact rfl; exact rfl) | fail) rfl ?_ | refine r_gcons rfl rfl (by first | (apply c_loadOA; exact rfl; (repeat (first | exact CAt.here | apply CAt.there)); exact rfl; exact rfl; exact rfl) | (apply c_loadO; exact rfl; (repeat (first | exact CAt.here | apply CAt.there)); exact rfl; exact rfl; exact rfl) | fail) rfl ?_ | exact r_nil | fail)) | fail
 refine o_alloc rfl rfl fun s2 => ?_
 repeat' first | refine wk ?_ | refine wc ?_ ?_ <;> intro h <;> try omega | fail
 refine t_midQ (fun q : Option Addr × Nat => [(1, .pointer (some ⟨jb, 0, none⟩)), (6, .slice q.1 98 q.2), (65, .slice (some ⟨gb, 0, none⟩) 1 gc), (66, .int .i64 1), (67, .int .i64 0), (76, .slice (some ⟨ob, 0, none⟩) 1 1), (77, .int .i64 1), (78, .int .i64 0), (93, .slice (some ⟨pb, 0, none⟩) 2 pc), (94, .int .i64 2), (95, .int .i64 1)]) (fun q => [byC q.1 98 q.2, cellsAt jb 197 [.int .i64 7, .int .i64 (g : Int), .int .i64 (r : Int), .int .i64 (c : Int), .int .i64 2, .int .i64 6, .int .i64 6, .slice none 0 0, .slice (some ⟨gb, 0, none⟩) 1 gc, .slice none 0 0], own (some ⟨gb, 0, none⟩) 1 gc 269 1 [[.slice (some ⟨ob, 0, none⟩) 1 1]], own (some ⟨ob, 0, none⟩) 1 oc 276 2 [[.int .i64 0, .slice (some ⟨pb, 0, none⟩) 2 pc]], own (some ⟨pb, 0, none⟩) 2 pc 85 3 awLV]) (fun _ => True) ?_ (fun hl he k => t_weaken hl he k) ?_
 ·refine t_draw (id := 23) (.eval 0 true (.eval 1 true (.eval 2 false (.eval 5 true (.eval 6 false (.eval 9 true (.eval 10 false q174_23_0))))))) rfl (by kernel_rfl) ?_
  repeat' first | refine wev ?_ | fail
  refine d_gen fun l Q hl hQ => ?_
  have Lx3x4x7x8x11x12x13 : ∀ (u3 : Nat) (e4 : Option Addr) (f4 : Nat) (u7 : Nat) (e8 : Option Addr) (f8 : Nat) (u11 : Nat) (e12 : Option Addr) (f12 : Nat), TD Tryz.prog 119 l q174_23_x3x4x7x8x11x12x13 [] [(102, .slice (some ⟨u3, 0, none⟩) 1 1), (103, .slice e4 93 f4), (106, .slice (some ⟨u7, 0, none⟩) 1 1), (107, .slice e8 97 f8), (110, .slice (some ⟨u11, 0, none⟩) 1 1), (111, .slice e12 98 f12), (6, .slice e12 98 f12), (100, .pointer (some ⟨s2, 0, none⟩)), (104, .pointer (some ⟨s2, 1, none⟩)), (108, .pointer (some ⟨s2, 2, none⟩)), (109, .int .i64 4), (105, .int .i64 3), (101, .int .i64 0), (99, .slice a8 92 c8), (1, .pointer (some ⟨jb, 0, none⟩)), (65, .slice (some ⟨gb, 0, none⟩) 1 gc), (66, .int .i64 1), (67, .int .i64 0), (76, .slice (some ⟨ob, 0, none⟩) 1 1), (77, .int .i64 1), (78, .int .i64 0), (93, .slice (some ⟨pb, 0, none⟩) 2 pc), (94, .int .i64 2), (95, .int .i64 1)] [cellsAt s2 85 [.int .i64 0, .int .i64 3, .int .i64 4], cellsAt jb 197 [.int .i64 7, .int .i64 (g : Int), .int .i64 (r : Int), .int .i64 (c : Int), .int .i64 2, .int .i64 6, .int .i64 6, .slice none 0 0, .slice (some ⟨gb, 0, none⟩) 1 gc, .slice none 0 0], own (some ⟨gb, 0, none⟩) 1 gc 269 1 [[.slice (some ⟨ob, 0, none⟩) 1 1]], own (some ⟨ob, 0, none⟩) 1 oc 276 2 [[.int .i64 0, .slice (some ⟨pb, 0, none⟩) 2 pc]], own (some ⟨pb, 0, none⟩) 2 pc 85 3 awLV, byC e12 98 f12] Q := by
   intro u3 e4 f4 u7 e8 f8 u11 e12 f12
   subst hl; subst hQ
   refine d_fin ?_
   exact ⟨rfl, (_, _), trivial, xlss, Ent.pick xpkd⟩
  have Lx3x4x7x8x11x12 : ∀ (u3 : Nat) (e4 : Option Addr) (f4 : Nat) (u7 : Nat) (e8 : Option Addr) (f8 : Nat) (u11 : Nat) (e12 : Option Addr) (f12 : Nat), TD Tryz.prog 119 l q174_23_x3x4x7x8x11x12 [] [(102, .slice (some ⟨u3, 0, none⟩) 1 1), (103, .slice e4 93 f4), (106, .slice (some ⟨u7, 0, none⟩) 1 1), (107, .slice e8 97 f8), (110, .slice (some ⟨u11, 0, none⟩) 1 1), (111, .slice e12 98 f12), (100, .pointer (some ⟨s2, 0, none⟩)), (104, .pointer (some ⟨s2, 1, none⟩)), (108, .pointer (some ⟨s2, 2, none⟩)), (109, .int .i64 4), (105, .int .i64 3), (101, .int .i64 0), (99, .slice a8 92 c8), (1, .pointer (some ⟨jb, 0, none⟩)), (65, .slice (some ⟨gb, 0, none⟩) 1 gc), (66, .int .i64 1), (67, .int .i64 0), (76, .slice (some ⟨ob, 0, none⟩) 1 1), (77, .int .i64 1), (78, .int .i64 0), (93, .slice (some ⟨pb, 0, none⟩) 2 pc), (94, .int .i64 2), (95, .int .i64 1)] [cellsAt s2 85 [.int .i64 0, .int .i64 3, .int .i64 4], cellsAt jb 197 [.int .i64 7, .int .i64 (g : Int), .int .i64 (r : Int), .int .i64 (c : Int), .int .i64 2, .int .i64 6, .int .i64 6, .slice none 0 0, .slice (some ⟨gb, 0, none⟩) 1 gc, .slice none 0 0], own (some ⟨gb, 0, none⟩) 1 gc 269 1 [[.slice (some ⟨ob, 0, none⟩) 1 1]], own (some ⟨ob, 0, none⟩) 1 oc 276 2 [[.int .i64 0, .slice (some ⟨pb, 0, none⟩) 2 pc]], own (some ⟨pb, 0, none⟩) 2 pc 85 3 awLV, byC e12 98 f12] Q := by
   intro u3 e4 f4 u7 e8 f8 u11 e12 f12
   subst hl; subst hQ
   refine d_eff rfl ?_ d_stop
   ·refine wk ?_
    repeat' first | refine wev ?_ | fail
    exact d_weak xlss (Ent.pick xpkd) (Lx3x4x7x8x11x12x13 _ _ _ _ _ _ _ _ _)
  have Lx3x4x7x8x11 : ∀ (u3 : Nat) (e4 : Option Addr) (f4 : Nat) (u7 : Nat) (e8 : Option Addr) (f8 : Nat) (u11 : Nat), TD Tryz.prog 119 l q174_23_x3x4x7x8x11 [] [(102, .slice (some ⟨u3, 0, none⟩) 1 1), (103, .slice e4 93 f4), (106, .slice (some ⟨u7, 0, none⟩) 1 1), (107, .slice e8 97 f8), (110, .slice (some ⟨u11, 0, none⟩) 1 1), (100, .pointer (some ⟨s2, 0, none⟩)), (104, .pointer (some ⟨s2, 1, none⟩)), (108, .pointer (some ⟨s2, 2, none⟩)), (109, .int .i64 4), (105, .int .i64 3), (101, .int .i64 0), (99, .slice a8 92 c8), (1, .pointer (some ⟨jb, 0, none⟩)), (65, .slice (some ⟨gb, 0, none⟩) 1 gc), (66, .int .i64 1), (67, .int .i64 0), (76, .slice (some ⟨ob, 0, none⟩) 1 1), (77, .int .i64 1), (78, .int .i64 0), (93, .slice (some ⟨pb, 0, none⟩) 2 pc), (94, .int .i64 2), (95, .int .i64 1)] [cellsAt s2 85 [.int .i64 0, .int .i64 3, .int .i64 4], cellsAt jb 197 [.int .i64 7, .int .i64 (g : Int), .int .i64 (r : Int), .int .i64 (c : Int), .int .i64 2, .int .i64 6, .int .i64 6, .slice none 0 0, .slice (some ⟨gb, 0, none⟩) 1 gc, .slice none 0 0], own (some ⟨gb, 0, none⟩) 1 gc 269 1 [[.slice (some ⟨ob, 0, none⟩) 1 1]], own (some ⟨ob, 0, none⟩) 1 oc 276 2 [[.int .i64 0, .slice (some ⟨pb, 0, none⟩) 2 pc]], own (some ⟨pb, 0, none⟩) 2 pc 85 3 awLV, byC e8 97 f8, own (some ⟨u11, 0, none⟩) 1 1 3 1 (natsV [4])] Q := by
   intro u3 e4 f4 u7 e8 f8 u11
   subst hl; subst hQ
   refine d_eff rfl ?_ d_stop
   ·refine c_call (p97 _ _ _ _) rfl xpkd rfl rfl ?_
    rintro v S ⟨_, _, rfl, rfl⟩
    refine l_tell rfl ?_
    repeat' first | refine wev ?_ | fail
    exact d_weak xlss (Ent.pick xpkd) (Lx3x4x7x8x11x12 _ _ _ _ _ _ _ _ _)
  have Lx3x4x7x8 : ∀ (u3 : Nat) (e4 : Option Addr) (f4 : Nat) (u7 : Nat) (e8 : Option Addr) (f8 : Nat), TD Tryz.prog 119 l q174_23_x3x4x7x8 [] [(102, .slice (some ⟨u3, 0, none⟩) 1 1), (103, .slice e4 93 f4), (106, .slice (some ⟨u7, 0, none⟩) 1 1), (107, .slice e8 97 f8), (100, .pointer (some ⟨s2, 0, none⟩)), (104, .pointer (some ⟨s2, 1, none⟩)), (108, .pointer (some ⟨s2, 2, none⟩)), (109, .int .i64 4), (105, .int .i64 3), (101, .int .i64 0), (99, .slice a8 92 c8), (1, .pointer (some ⟨jb, 0, none⟩)), (65, .slice (some ⟨gb, 0, none⟩) 1 gc), (66, .int .i64 1), (67, .int .i64 0), (76, .slice (some ⟨ob, 0, none⟩) 1 1), (77, .int .i64 1), (78, .int .i64 0), (93, .slice (some ⟨pb, 0, none⟩) 2 pc), (94, .int .i64 2), (95, .int .i64 1)] [cellsAt s2 85 [.int .i64 0, .int .i64 3, .int .i64 4], cellsAt jb 197 [.int .i64 7, .int .i64 (g : Int), .int .i64 (r : Int), .int .i64 (c : Int), .int .i64 2, .int .i64 6, .int .i64 6, .slice none 0 0, .slice (some ⟨gb, 0, none⟩) 1 gc, .slice none 0 0], own (some ⟨gb, 0, none⟩) 1 gc 269 1 [[.slice (some ⟨ob, 0, none⟩) 1 1]], own (some ⟨ob, 0, none⟩) 1 oc 276 2 [[.int .i64 0, .slice (some ⟨pb, 0, none⟩) 2 pc]], own (some ⟨pb, 0, none⟩) 2 pc 85 3 awLV, byC e8 97 f8] Q := by
   intro u3 e4 f4 u7 e8 f8
   subst hl; subst hQ
   refine d_eff rfl ?_ d_stop
   ·refine o_buildSlice rfl rfl rfl rfl rfl rfl rfl rfl rfl rfl rfl rfl fun b => ?_
    repeat' first | refine wev ?_ | fail
    exact d_weak xlss (Ent.pick xpkd) (Lx3x4x7x8x11 _ _ _ _ _ _ _)
  have Lx3x4x7x11 : ∀ (u3 : Nat) (e4 : Option Addr) (f4 : Nat) (u7 : Nat) (u11 : Nat), TD Tryz.prog 119 l q174_23_x3x4x7x11 [] [(102, .slice (some ⟨u3, 0, none⟩) 1 1), (103, .slice e4 93 f4), (106, .slice (some ⟨u7, 0, none⟩) 1 1), (110, .slice (some ⟨u11, 0, none⟩) 1 1), (100, .pointer (some ⟨s2, 0, none⟩)), (104, .pointer (some ⟨s2, 1, none⟩)), (108, .pointer (some ⟨s2, 2, none⟩)), (109, .int .i64 4), (105, .int .i64 3), (101, .int .i64 0), (99, .slice a8 92 c8), (1, .pointer (some ⟨jb, 0, none⟩)), (65, .slice (some ⟨gb, 0, none⟩) 1 gc), (66, .int .i64 1), (67, .int .i64 0), (76, .slice (some ⟨ob, 0, none⟩) 1 1), (77, .int .i64 1), (78, .int .i64 0), (93, .slice (some ⟨pb, 0, none⟩) 2 pc), (94, .int .i64 2), (95, .int .i64 1)] [cellsAt s2 85 [.int .i64 0, .int .i64 3, .int .i64 4], cellsAt jb 197 [.int .i64 7, .int .i64 (g : Int), .int .i64 (r : Int), .int .i64 (c : Int), .int .i64 2, .int .i64 6, .int .i64 6, .slice none 0 0, .slice (some ⟨gb, 0, none⟩) 1 gc, .slice none 0 0], own (some ⟨gb, 0, none⟩) 1 gc 269 1 [[.slice (some ⟨ob, 0, none⟩) 1 1]], own (some ⟨ob, 0, none⟩) 1 oc 276 2 [[.int .i64 0, .slice (some ⟨pb, 0, none⟩) 2 pc]], own (some ⟨pb, 0, none⟩) 2 pc 85 3 awLV, byC e4 93 f4, own (some ⟨u7, 0, none⟩) 1 1 3 1 (natsV [3]), own (some ⟨u11, 0, none⟩) 1 1 3 1 (natsV [4])] Q := by
   intro u3 e4 f4 u7 u11
   subst hl; subst hQ
   refine d_eff rfl ?_ d_stop
   ·refine c_call (p93 _ _ _ _) rfl xpkd rfl rfl ?_
    rintro v S ⟨_, _, rfl, rfl⟩
    refine l_tell rfl ?_
    repeat' first | refine wev ?_ | fail
    exact d_weak xlss (Ent.pick xpkd) (Lx3x4x7x8x11 _ _ _ _ _ _ _)
  have Lx3x4x7 : ∀ (u3 : Nat) (e4 : Option Addr) (f4 : Nat) (u7 : Nat), TD Tryz.prog 119 l q174_23_x3x4x7 [] [(102, .slice (some ⟨u3, 0, none⟩) 1 1), (103, .slice e4 93 f4), (106, .slice (some ⟨u7, 0, none⟩) 1 1), (100, .pointer (some ⟨s2, 0, none⟩)), (104, .pointer (some ⟨s2, 1, none⟩)), (108, .pointer (some ⟨s2, 2, none⟩)), (109, .int .i64 4), (105, .int .i64 3), (101, .int .i64 0), (99, .slice a8 92 c8), (1, .pointer (some ⟨jb, 0, none⟩)), (65, .slice (some ⟨gb, 0, none⟩) 1 gc), (66, .int .i64 1), (67, .int .i64 0), (76, .slice (some ⟨ob, 0, none⟩) 1 1), (77, .int .i64 1), (78, .int .i64 0), (93, .slice (some ⟨pb, 0, none⟩) 2 pc), (94, .int .i64 2), (95, .int .i64 1)] [cellsAt s2 85 [.int .i64 0, .int .i64 3, .int .i64 4], cellsAt jb 197 [.int .i64 7, .int .i64 (g : Int), .int .i64 (r : Int), .int .i64 (c : Int), .int .i64 2, .int .i64 6, .int .i64 6, .slice none 0 0, .slice (some ⟨gb, 0, none⟩) 1 gc, .slice none 0 0], own (some ⟨gb, 0, none⟩) 1 gc 269 1 [[.slice (some ⟨ob, 0, none⟩) 1 1]], own (some ⟨ob, 0, none⟩) 1 oc 276 2 [[.int .i64 0, .slice (some ⟨pb, 0, none⟩) 2 pc]], own (some ⟨pb, 0, none⟩) 2 pc 85 3 awLV, byC e4 93 f4, own (some ⟨u7, 0, none⟩) 1 1 3 1 (natsV [3])] Q := by
   intro u3 e4 f4 u7
   subst hl; subst hQ
   refine d_eff rfl ?_ ?_
   ·refine c_call (p93 _ _ _ _) rfl xpkd rfl rfl ?_
    rintro v S ⟨_, _, rfl, rfl⟩
    refine l_tell rfl ?_
    repeat' first | refine wev ?_ | fail
    exact d_weak xlss (Ent.pick xpkd) (Lx3x4x7x8 _ _ _ _ _ _)
   refine d_eff rfl ?_ d_stop
   ·refine o_buildSlice rfl rfl rfl rfl rfl rfl rfl rfl rfl rfl rfl rfl fun b => ?_
    repeat' first | refine wev ?_ | fail
    exact d_weak xlss (Ent.pick xpkd) (Lx3x4x7x11 _ _ _ _ _)
  have Lx3x4x11 : ∀ (u3 : Nat) (e4 : Option Addr) (f4 : Nat) (u11 : Nat), TD Tryz.prog 119 l q174_23_x3x4x11 [] [(102, .slice (some ⟨u3, 0, none⟩) 1 1), (103, .slice e4 93 f4), (110, .slice (some ⟨u11, 0, none⟩) 1 1), (100, .pointer (some ⟨s2, 0, none⟩)), (104, .pointer (some ⟨s2, 1, none⟩)), (108, .pointer (some ⟨s2, 2, none⟩)), (109, .int .i64 4), (105, .int .i64 3), (101, .int .i64 0), (99, .slice a8 92 c8), (1, .pointer (some ⟨jb, 0, none⟩)), (65, .slice (some ⟨gb, 0, none⟩) 1 gc), (66, .int .i64 1), (67, .int .i64 0), (76, .slice (some ⟨ob, 0, none⟩) 1 1), (77, .int .i64 1), (78, .int .i64 0), (93, .slice (some ⟨pb, 0, none⟩) 2 pc), (94, .int .i64 2), (95, .int .i64 1)] [cellsAt s2 85 [.int .i64 0, .int .i64 3, .int .i64 4], cellsAt jb 197 [.int .i64 7, .int .i64 (g : Int), .int .i64 (r : Int), .int .i64 (c : Int), .int .i64 2, .int .i64 6, .int .i64 6, .slice none 0 0, .slice (some ⟨gb, 0, none⟩) 1 gc, .slice none 0 0], own (some ⟨gb, 0, none⟩) 1 gc 269 1 [[.slice (some ⟨ob, 0, none⟩) 1 1]], own (some ⟨ob, 0, none⟩) 1 oc 276 2 [[.int .i64 0, .slice (some ⟨pb, 0, none⟩) 2 pc]], own (some ⟨pb, 0, none⟩) 2 pc 85 3 awLV, byC e4 93 f4, own (some ⟨u11, 0, none⟩) 1 1 3 1 (natsV [4])] Q := by
   intro u3 e4 f4 u11
   subst hl; subst hQ
   refine d_eff rfl ?_ d_stop
   ·refine o_buildSlice rfl rfl rfl rfl rfl rfl rfl rfl rfl rfl rfl rfl fun b => ?_
    repeat' first | refine wev ?_ | fail
    exact d_weak xlss (Ent.pick xpkd) (Lx3x4x7x11 _ _ _ _ _)
  have Lx3x4 : ∀ (u3 : Nat) (e4 : Option Addr) (f4 : Nat), TD Tryz.prog 119 l q174_23_x3x4 [] [(102, .slice (some ⟨u3, 0, none⟩) 1 1), (103, .slice e4 93 f4), (100, .pointer (some ⟨s2, 0, none⟩)), (104, .pointer (some ⟨s2, 1, none⟩)), (108, .pointer (some ⟨s2, 2, none⟩)), (109, .int .i64 4), (105, .int .i64 3), (101, .int .i64 0), (99, .slice a8 92 c8), (1, .pointer (some ⟨jb, 0, none⟩)), (65, .slice (some ⟨gb, 0, none⟩) 1 gc), (66, .int .i64 1), (67, .int .i64 0), (76, .slice (some ⟨ob, 0, none⟩) 1 1), (77, .int .i64 1), (78, .int .i64 0), (93, .slice (some ⟨pb, 0, none⟩) 2 pc), (94, .int .i64 2), (95, .int .i64 1)] [cellsAt s2 85 [.int .i64 0, .int .i64 3, .int .i64 4], cellsAt jb 197 [.int .i64 7, .int .i64 (g : Int), .int .i64 (r : Int), .int .i64 (c : Int), .int .i64 2, .int .i64 6, .int .i64 6, .slice none 0 0, .slice (some ⟨gb, 0, none⟩) 1 gc, .slice none 0 0], own (some ⟨gb, 0, none⟩) 1 gc 269 1 [[.slice (some ⟨ob, 0, none⟩) 1 1]], own (some ⟨ob, 0, none⟩) 1 oc 276 2 [[.int .i64 0, .slice (some ⟨pb, 0, none⟩) 2 pc]], own (some ⟨pb, 0, none⟩) 2 pc 85 3 awLV, byC e4 93 f4] Q := by
   intro u3 e4 f4
   subst hl; subst hQ
   refine d_eff rfl ?_ ?_
   ·refine o_buildSlice rfl rfl rfl rfl rfl rfl rfl rfl rfl rfl rfl rfl fun b => ?_
    repeat' first | refine wev ?_ | fail
    exact d_weak xlss (Ent.pick xpkd) (Lx3x4x7 _ _ _ _)
   refine d_eff rfl ?_ d_stop
   ·refine o_buildSlice rfl rfl rfl rfl rfl rfl rfl rfl rfl rfl rfl rfl fun b => ?_
    repeat' first | refine wev ?_ | fail
    exact d_weak xlss (Ent.pick xpkd) (Lx3x4x11 _ _ _ _)
  have Lx3x7x11 : ∀ (u3 : Nat) (u7 : Nat) (u11 : Nat), TD Tryz.prog 119 l q174_23_x3x7x11 [] [(102, .slice (some ⟨u3, 0, none⟩) 1 1), (106, .slice (some ⟨u7, 0, none⟩) 1 1), (110, .slice (some ⟨u11, 0, none⟩) 1 1), (100, .pointer (some ⟨s2, 0, none⟩)), (104, .pointer (some ⟨s2, 1, none⟩)), (108, .pointer (some ⟨s2, 2, none⟩)), (109, .int .i64 4), (105, .int .i64 3), (101, .int .i64 0), (99, .slice a8 92 c8), (1, .pointer (some ⟨jb, 0, none⟩)), (65, .slice (some ⟨gb, 0, none⟩) 1 gc), (66, .int .i64 1), (67, .int .i64 0), (76, .slice (some ⟨ob, 0, none⟩) 1 1), (77, .int .i64 1), (78, .int .i64 0), (93, .slice (some ⟨pb, 0, none⟩) 2 pc), (94, .int .i64 2), (95, .int .i64 1)] [byC a8 92 c8, cellsAt s2 85 [.int .i64 0, .int .i64 3, .int .i64 4], cellsAt jb 197 [.int .i64 7, .int .i64 (g : Int), .int .i64 (r : Int), .int .i64 (c : Int), .int .i64 2, .int .i64 6, .int .i64 6, .slice none 0 0, .slice (some ⟨gb, 0, none⟩) 1 gc, .slice none 0 0], own (some ⟨gb, 0, none⟩) 1 gc 269 1 [[.slice (some ⟨ob, 0, none⟩) 1 1]], own (some ⟨ob, 0, none⟩) 1 oc 276 2 [[.int .i64 0, .slice (some ⟨pb, 0, none⟩) 2 pc]], own (some ⟨pb, 0, none⟩) 2 pc 85 3 awLV, own (some ⟨u3, 0, none⟩) 1 1 3 1 (natsV [0]), own (some ⟨u7, 0, none⟩) 1 1 3 1 (natsV [3]), own (some ⟨u11, 0, none⟩) 1 1 3 1 (natsV [4])] Q := by
   intro u3 u7 u11
   subst hl; subst hQ
   refine d_eff rfl ?_ d_stop
   ·refine c_call (p92 _ _ _ _) rfl xpkd rfl rfl ?_
    rintro v S ⟨_, _, rfl, rfl⟩
    refine l_tell rfl ?_
    repeat' first | refine wev ?_ | fail
    exact d_weak xlss (Ent.pick xpkd) (Lx3x4x7x11 _ _ _ _ _)
  have Lx3x7 : ∀ (u3 : Nat) (u7 : Nat), TD Tryz.prog 119 l q174_23_x3x7 [] [(102, .slice (some ⟨u3, 0, none⟩) 1 1), (106, .slice (some ⟨u7, 0, none⟩) 1 1), (100, .pointer (some ⟨s2, 0, none⟩)), (104, .pointer (some ⟨s2, 1, none⟩)), (108, .pointer (some ⟨s2, 2, none⟩)), (109, .int .i64 4), (105, .int .i64 3), (101, .int .i64 0), (99, .slice a8 92 c8), (1, .pointer (some ⟨jb, 0, none⟩)), (65, .slice (some ⟨gb, 0, none⟩) 1 gc), (66, .int .i64 1), (67, .int .i64 0), (76, .slice (some ⟨ob, 0, none⟩) 1 1), (77, .int .i64 1), (78, .int .i64 0), (93, .slice (some ⟨pb, 0, none⟩) 2 pc), (94, .int .i64 2), (95, .int .i64 1)] [byC a8 92 c8, cellsAt s2 85 [.int .i64 0, .int .i64 3, .int .i64 4], cellsAt jb 197 [.int .i64 7, .int .i64 (g : Int), .int .i64 (r : Int), .int .i64 (c : Int), .int .i64 2, .int .i64 6, .int .i64 6, .slice none 0 0, .slice (some ⟨gb, 0, none⟩) 1 gc, .slice none 0 0], own (some ⟨gb, 0, none⟩) 1 gc 269 1 [[.slice (some ⟨ob, 0, none⟩) 1 1]], own (some ⟨ob, 0, none⟩) 1 oc 276 2 [[.int .i64 0, .slice (some ⟨pb, 0, none⟩) 2 pc]], own (some ⟨pb, 0, none⟩) 2 pc 85 3 awLV, own (some ⟨u3, 0, none⟩) 1 1 3 1 (natsV [0]), own (some ⟨u7, 0, none⟩) 1 1 3 1 (natsV [3])] Q := by
   intro u3 u7
   subst hl; subst hQ
   refine d_eff rfl ?_ ?_
   ·refine c_call (p92 _ _ _ _) rfl xpkd rfl rfl ?_
    rintro v S ⟨_, _, rfl, rfl⟩
    refine l_tell rfl ?_
    repeat' first | refine wev ?_ | fail
    exact d_weak xlss (Ent.pick xpkd) (Lx3x4x7 _ _ _ _)
   refine d_eff rfl ?_ d_stop
   ·refine o_buildSlice rfl rfl rfl rfl rfl rfl rfl rfl rfl rfl rfl rfl fun b => ?_
    repeat' first | refine wev ?_ | fail
    exact d_weak xlss (Ent.pick xpkd) (Lx3x7x11 _ _ _)
  have Lx3x11 : ∀ (u3 : Nat) (u11 : Nat), TD Tryz.prog 119 l q174_23_x3x11 [] [(102, .slice (some ⟨u3, 0, none⟩) 1 1), (110, .slice (some ⟨u11, 0, none⟩) 1 1), (100, .pointer (some ⟨s2, 0, none⟩)), (104, .pointer (some ⟨s2, 1, none⟩)), (108, .pointer (some ⟨s2, 2, none⟩)), (109, .int .i64 4), (105, .int .i64 3), (101, .int .i64 0), (99, .slice a8 92 c8), (1, .pointer (some ⟨jb, 0, none⟩)), (65, .slice (some ⟨gb, 0, none⟩) 1 gc), (66, .int .i64 1), (67, .int .i64 0), (76, .slice (some ⟨ob, 0, none⟩) 1 1), (77, .int .i64 1), (78, .int .i64 0), (93, .slice (some ⟨pb, 0, none⟩) 2 pc), (94, .int .i64 2), (95, .int .i64 1)] [byC a8 92 c8, cellsAt s2 85 [.int .i64 0, .int .i64 3, .int .i64 4], cellsAt jb 197 [.int .i64 7, .int .i64 (g : Int), .int .i64 (r : Int), .int .i64 (c : Int), .int .i64 2, .int .i64 6, .int .i64 6, .slice none 0 0, .slice (some ⟨gb, 0, none⟩) 1 gc, .slice none 0 0], own (some ⟨gb, 0, none⟩) 1 gc 269 1 [[.slice (some ⟨ob, 0, none⟩) 1 1]], own (some ⟨ob, 0, none⟩) 1 oc 276 2 [[.int .i64 0, .slice (some ⟨pb, 0, none⟩) 2 pc]], own (some ⟨pb, 0, none⟩) 2 pc 85 3 awLV, own (some ⟨u3, 0, none⟩) 1 1 3 1 (natsV [0]), own (some ⟨u11, 0, none⟩) 1 1 3 1 (natsV [4])] Q := by
   intro u3 u11
   subst hl; subst hQ
   refine d_eff rfl ?_ ?_
   ·refine c_call (p92 _ _ _ _) rfl xpkd rfl rfl ?_
    rintro v S ⟨_, _, rfl, rfl⟩
    refine l_tell rfl ?_
    repeat' first | refine wev ?_ | fail
    exact d_weak xlss (Ent.pick xpkd) (Lx3x4x11 _ _ _ _)
   refine d_eff rfl ?_ d_stop
   ·refine o_buildSlice rfl rfl rfl rfl rfl rfl rfl rfl rfl rfl rfl rfl fun b => ?_
    repeat' first | refine wev ?_ | fail
    exact d_weak xlss (Ent.pick xpkd) (Lx3x7x11 _ _ _)
  have Lx3 : ∀ (u3 : Nat), TD Tryz.prog 119 l q174_23_x3 [] [(102, .slice (some ⟨u3, 0, none⟩) 1 1), (100, .pointer (some ⟨s2, 0, none⟩)), (104, .pointer (some ⟨s2, 1, none⟩)), (108, .pointer (some ⟨s2, 2, none⟩)), (109, .int .i64 4), (105, .int .i64 3), (101, .int .i64 0), (99, .slice a8 92 c8), (1, .pointer (some ⟨jb, 0, none⟩)), (65, .slice (some ⟨gb, 0, none⟩) 1 gc), (66, .int .i64 1), (67, .int .i64 0), (76, .slice (some ⟨ob, 0, none⟩) 1 1), (77, .int .i64 1), (78, .int .i64 0), (93, .slice (some ⟨pb, 0, none⟩) 2 pc), (94, .int .i64 2), (95, .int .i64 1)] [byC a8 92 c8, cellsAt s2 85 [.int .i64 0, .int .i64 3, .int .i64 4], cellsAt jb 197 [.int .i64 7, .int .i64 (g : Int), .int .i64 (r : Int), .int .i64 (c : Int), .int .i64 2, .int .i64 6, .int .i64 6, .slice none 0 0, .slice (some ⟨gb, 0, none⟩) 1 gc, .slice none 0 0], own (some ⟨gb, 0, none⟩) 1 gc 269 1 [[.slice (some ⟨ob, 0, none⟩) 1 1]], own (some ⟨ob, 0, none⟩) 1 oc 276 2 [[.int .i64 0, .slice (some ⟨pb, 0, none⟩) 2 pc]], own (some ⟨pb, 0, none⟩) 2 pc 85 3 awLV, own (some ⟨u3, 0, none⟩) 1 1 3 1 (natsV [0])] Q := by
   intro u3
   subst hl; subst hQ
   refine d_eff rfl ?_ ?_
   ·refine c_call (p92 _ _ _ _) rfl xpkd rfl rfl ?_
    rintro v S ⟨_, _, rfl, rfl⟩
    refine l_tell rfl ?_
    repeat' first | refine wev ?_ | fail
    exact d_weak xlss (Ent.pick xpkd) (Lx3x4 _ _ _)
   refine d_eff rfl ?_ ?_
   ·refine o_buildSlice rfl rfl rfl rfl rfl rfl rfl rfl rfl rfl rfl rfl fun b => ?_
    repeat' first | refine wev ?_ | fail
    exact d_weak xlss (Ent.pick xpkd) (Lx3x7 _ _)
   refine d_eff rfl ?_ d_stop
   ·refine o_buildSlice rfl rfl rfl rfl rfl rfl rfl rfl rfl rfl rfl rfl fun b => ?_
    repeat' first | refine wev ?_ | fail
    exact d_weak xlss (Ent.pick xpkd) (Lx3x11 _ _)
  have Lx7x11 : ∀ (u7 : Nat) (u11 : Nat), TD Tryz.prog 119 l q174_23_x7x11 [] [(106, .slice (some ⟨u7, 0, none⟩) 1 1), (110, .slice (some ⟨u11, 0, none⟩) 1 1), (100, .pointer (some ⟨s2, 0, none⟩)), (104, .pointer (some ⟨s2, 1, none⟩)), (108, .pointer (some ⟨s2, 2, none⟩)), (109, .int .i64 4), (105, .int .i64 3), (101, .int .i64 0), (99, .slice a8 92 c8), (1, .pointer (some ⟨jb, 0, none⟩)), (65, .slice (some ⟨gb, 0, none⟩) 1 gc), (66, .int .i64 1), (67, .int .i64 0), (76, .slice (some ⟨ob, 0, none⟩) 1 1), (77, .int .i64 1), (78, .int .i64 0), (93, .slice (some ⟨pb, 0, none⟩) 2 pc), (94, .int .i64 2), (95, .int .i64 1)] [byC a8 92 c8, cellsAt s2 85 [.int .i64 0, .int .i64 3, .int .i64 4], cellsAt jb 197 [.int .i64 7, .int .i64 (g : Int), .int .i64 (r : Int), .int .i64 (c : Int), .int .i64 2, .int .i64 6, .int .i64 6, .slice none 0 0, .slice (some ⟨gb, 0, none⟩) 1 gc, .slice none 0 0], own (some ⟨gb, 0, none⟩) 1 gc 269 1 [[.slice (some ⟨ob, 0, none⟩) 1 1]], own (some ⟨ob, 0, none⟩) 1 oc 276 2 [[.int .i64 0, .slice (some ⟨pb, 0, none⟩) 2 pc]], own (some ⟨pb, 0, none⟩) 2 pc 85 3 awLV, own (some ⟨u7, 0, none⟩) 1 1 3 1 (natsV [3]), own (some ⟨u11, 0, none⟩) 1 1 3 1 (natsV [4])] Q := by
   intro u7 u11
   subst hl; subst hQ
   refine d_eff rfl ?_ d_stop
   ·refine o_buildSlice rfl rfl rfl rfl rfl rfl rfl rfl rfl rfl rfl rfl fun b => ?_
    repeat' first | refine wev ?_ | fail
    exact d_weak xlss (Ent.pick xpkd) (Lx3x7x11 _ _ _)
  have Lx7 : ∀ (u7 : Nat), TD Tryz.prog 119 l q174_23_x7 [] [(106, .slice (some ⟨u7, 0, none⟩) 1 1), (100, .pointer (some ⟨s2, 0, none⟩)), (104, .pointer (some ⟨s2, 1, none⟩)), (108, .pointer (some ⟨s2, 2, none⟩)), (109, .int .i64 4), (105, .int .i64 3), (101, .int .i64 0), (99, .slice a8 92 c8), (1, .pointer (some ⟨jb, 0, none⟩)), (65, .slice (some ⟨gb, 0, none⟩) 1 gc), (66, .int .i64 1), (67, .int .i64 0), (76, .slice (some ⟨ob, 0, none⟩) 1 1), (77, .int .i64 1), (78, .int .i64 0), (93, .slice (some ⟨pb, 0, none⟩) 2 pc), (94, .int .i64 2), (95, .int .i64 1)] [byC a8 92 c8, cellsAt s2 85 [.int .i64 0, .int .i64 3, .int .i64 4], cellsAt jb 197 [.int .i64 7, .int .i64 (g : Int), .int .i64 (r : Int), .int .i64 (c : Int), .int .i64 2, .int .i64 6, .int .i64 6, .slice none 0 0, .slice (some ⟨gb, 0, none⟩) 1 gc, .slice none 0 0], own (some ⟨gb, 0, none⟩) 1 gc 269 1 [[.slice (some ⟨ob, 0, none⟩) 1 1]], own (some ⟨ob, 0, none⟩) 1 oc 276 2 [[.int .i64 0, .slice (some ⟨pb, 0, none⟩) 2 pc]], own (some ⟨pb, 0, none⟩) 2 pc 85 3 awLV, own (some ⟨u7, 0, none⟩) 1 1 3 1 (natsV [3])] Q := by
   intro u7
   subst hl; subst hQ
   refine d_eff rfl ?_ ?_
   ·refine o_buildSlice rfl rfl rfl rfl rfl rfl rfl rfl rfl rfl rfl rfl fun b => ?_
    repeat' first | refine wev ?_ | fail
    exact d_weak xlss (Ent.pick xpkd) (Lx3x7 _ _)
   refine d_eff rfl ?_ d_stop
   ·refine o_buildSlice rfl rfl rfl rfl rfl rfl rfl rfl rfl rfl rfl rfl fun b => ?_
    repeat' first | refine wev ?_ | fail
    exact d_weak xlss (Ent.pick xpkd) (Lx7x11 _ _)
  have Lx11 : ∀ (u11 : Nat), TD Tryz.prog 119 l q174_23_x11 [] [(110, .slice (some ⟨u11, 0, none⟩) 1 1), (100, .pointer (some ⟨s2, 0, none⟩)), (104, .pointer (some ⟨s2, 1, none⟩)), (108, .pointer (some ⟨s2, 2, none⟩)), (109, .int .i64 4), (105, .int .i64 3), (101, .int .i64 0), (99, .slice a8 92 c8), (1, .pointer (some ⟨jb, 0, none⟩)), (65, .slice (some ⟨gb, 0, none⟩) 1 gc), (66, .int .i64 1), (67, .int .i64 0), (76, .slice (some ⟨ob, 0, none⟩) 1 1), (77, .int .i64 1), (78, .int .i64 0), (93, .slice (some ⟨pb, 0, none⟩) 2 pc), (94, .int .i64 2), (95, .int .i64 1)] [byC a8 92 c8, cellsAt s2 85 [.int .i64 0, .int .i64 3, .int .i64 4], cellsAt jb 197 [.int .i64 7, .int .i64 (g : Int), .int .i64 (r : Int), .int .i64 (c : Int), .int .i64 2, .int .i64 6, .int .i64 6, .slice none 0 0, .slice (some ⟨gb, 0, none⟩) 1 gc, .slice none 0 0], own (some ⟨gb, 0, none⟩) 1 gc 269 1 [[.slice (some ⟨ob, 0, none⟩) 1 1]], own (some ⟨ob, 0, none⟩) 1 oc 276 2 [[.int .i64 0, .slice (some ⟨pb, 0, none⟩) 2 pc]], own (some ⟨pb, 0, none⟩) 2 pc 85 3 awLV, own (some ⟨u11, 0, none⟩) 1 1 3 1 (natsV [4])] Q := by
   intro u11
   subst hl; subst hQ
   refine d_eff rfl ?_ ?_
   ·refine o_buildSlice rfl rfl rfl rfl rfl rfl rfl rfl rfl rfl rfl rfl fun b => ?_
    repeat' first | refine wev ?_ | fail
    exact d_weak xlss (Ent.pick xpkd) (Lx3x11 _ _)
   refine d_eff rfl ?_ d_stop
   ·refine o_buildSlice rfl rfl rfl rfl rfl rfl rfl rfl rfl rfl rfl rfl fun b => ?_
    repeat' first | refine wev ?_ | fail
    exact d_weak xlss (Ent.pick xpkd) (Lx7x11 _ _)
  have L0 : ∀ (_ : True), TD Tryz.prog 119 l q174_23_0 [] [(100, .pointer (some ⟨s2, 0, none⟩)), (104, .pointer (some ⟨s2, 1, none⟩)), (108, .pointer (some ⟨s2, 2, none⟩)), (109, .int .i64 4), (105, .int .i64 3), (101, .int .i64 0), (99, .slice a8 92 c8), (1, .pointer (some ⟨jb, 0, none⟩)), (65, .slice (some ⟨gb, 0, none⟩) 1 gc), (66, .int .i64 1), (67, .int .i64 0), (76, .slice (some ⟨ob, 0, none⟩) 1 1), (77, .int .i64 1), (78, .int .i64 0), (93, .slice (some ⟨pb, 0, none⟩) 2 pc), (94, .int .i64 2), (95, .int .i64 1)] [byC a8 92 c8, cellsAt s2 85 [.int .i64 0, .int .i64 3, .int .i64 4], cellsAt jb 197 [.int .i64 7, .int .i64 (g : Int), .int .i64 (r : Int), .int .i64 (c : Int), .int .i64 2, .int .i64 6, .int .i64 6, .slice none 0 0, .slice (some ⟨gb, 0, none⟩) 1 gc, .slice none 0 0], own (some ⟨gb, 0, none⟩) 1 gc 269 1 [[.slice (some ⟨ob, 0, none⟩) 1 1]], own (some ⟨ob, 0, none⟩) 1 oc 276 2 [[.int .i64 0, .slice (some ⟨pb, 0, none⟩) 2 pc]], own (some ⟨pb, 0, none⟩) 2 pc 85 3 awLV] Q := by
   intro _
   subst hl; subst hQ
   refine d_eff rfl ?_ ?_
   ·refine o_buildSlice rfl rfl rfl rfl rfl rfl rfl rfl rfl rfl rfl rfl fun b => ?_
    repeat' first | refine wev ?_ | fail
    exact d_weak xlss (Ent.pick xpkd) (Lx3 _)
   refine d_eff rfl ?_ ?_
   ·refine o_buildSlice rfl rfl rfl rfl rfl rfl rfl rfl rfl rfl rfl rfl fun b => ?_
    repeat' first | refine wev ?_ | fail
    exact d_weak xlss (Ent.pick xpkd) (Lx7 _)
   refine d_eff rfl ?_ d_stop
   ·refine o_buildSlice rfl rfl rfl rfl rfl rfl rfl rfl rfl rfl rfl rfl fun b => ?_
    repeat' first | refine wev ?_ | fail
    exact d_weak xlss (Ent.pick xpkd) (Lx11 _)
  exact d_weak xlss (Ent.pick xpkd) (L0 trivial)
 rintro ⟨a9, c9⟩ -
 dsimp only
 repeat' first | refine t_rounds 3 (rnd_succ ?_) | refine rnd_succ ?_ | refine pt_exit ?_ | refine pb_exit ?_ | refine wk ?_ | refine wc ?_ ?_ <;> intro h <;> try omega | refine l_qs (by (apply c_loadOA; exact rfl; (repeat (first | exact CAt.here | apply CAt.there)); exact rfl; exact rfl; exact rfl)) rfl ?_ | refine d_qs rfl (by (apply c_loadOA; exact rfl; (repeat (first | exact CAt.here | apply CAt.there)); exact rfl; exact rfl; exact rfl)) rfl ?_ | refine d_gqs rfl rfl (by (apply c_loadOA; exact rfl; (repeat (first | exact CAt.here | apply CAt.there)); exact rfl; exact rfl; exact rfl)) rfl ?_ | refine l_qs (by (apply c_loadO; exact rfl; (repeat (first | exact CAt.here | apply CAt.there)); exact rfl; exact rfl; exact rfl)) rfl ?_ | refine d_qs rfl (by (apply c_loadO; exact rfl; (repeat (first | exact CAt.here | apply CAt.there)); exact rfl; exact rfl; exact rfl)) rfl ?_ | refine d_gqs rfl rfl (by (apply c_loadO; exact rfl; (repeat (first | exact CAt.here | apply CAt.there)); exact rfl; exact rfl; exact rfl)) rfl ?_ | (refine n_eff ?_ ?_; · (repeat first | refine wre ?_ | refine r_cons rfl (by first | (apply c_loadOA; exact rfl; (repeat (first | exact CAt.here | apply CAt.there)); exact rfl; exact rfl; exact rfl) | (apply c_loadO; exact rfl; (repeat (first | exact CAt.here | apply CAt.there)); exact rfl; exact rfl; exact rfl) | fail) rfl ?_ | refine r_gcons rfl rfl (by first | (apply c_loadOA; exact rfl; (repeat (first | exact CAt.here | apply CAt.there)); exact rfl; exact rfl; exact rfl) | (apply c_loadO; exact rfl; (repeat (first | exact CAt.here | apply CAt.there)); exact rfl; exact rfl; exact rfl) | fail) rfl ?_ | exact r_nil | fail)) | fail
 refine l_ent (ent_by0 _) ?_
 refine c_appendB (n := 98) (m := 0) rfl rfl xrmv xrmv (by omega) rfl fun ea ec => ?_
 repeat' first | refine wk ?_ | refine wc ?_ ?_ <;> intro h <;> try omega | fail
 exact b_ret [byC ea 98 ec, own (some ⟨gb, 0, none⟩) 1 gc 269 1 [[.slice (some ⟨ob, 0, none⟩) 1 1]], own (some ⟨ob, 0, none⟩) 1 oc 276 2 [[.int .i64 0, .slice (some ⟨pb, 0, none⟩) 2 pc]], own (some ⟨pb, 0, none⟩) 2 pc 85 3 awLV] rfl (Ent.pick xpkd) ⟨ea, ec, rfl, rfl⟩
end
end Go.Ox
end
