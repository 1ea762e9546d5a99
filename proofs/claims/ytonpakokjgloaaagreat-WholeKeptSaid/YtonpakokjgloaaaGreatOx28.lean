/- WholeKept, part 28. No condition. -/
import Derived.Test.YtonpakokjgloaaaGreatOx27
set_option linter.all false
section
set_option maxRecDepth 100000
set_option maxHeartbeats 3200000
namespace Go.Ox
open Go Go.Proofs
theorem d_88 (T rb : Nat) (m : Value) : DSpec Tryz.prog 88 [.pointer (some ⟨T, 0, none⟩), m, .pointer (some ⟨rb, 0, none⟩)] [cellsAt rb 29 [.int .i64 0]] (fun S => S = [cellsAt rb 29 [.int .i64 0]]) := by
 refine dspec_of Tryz.func88 rfl Tryz.results88 Tryz.ntmps88 rfl ?_
 repeat' first | refine wk ?_ | refine wc ?_ ?_ <;> intro h <;> try omega | fail
 exact b_ret [cellsAt rb 29 [.int .i64 0]] rfl (Ent.refl _) rfl
theorem ent_stless {K : SK} {pg : Nat → Option (List Nat)} {sl : Nat} (a b : Nat) (h : b ≤ a) (R : List Asn) : Ent (stC K pg sl a :: R) (stC K pg sl b :: R) := Ent.fold (L := [_]) fun x hx => by
 obtain ⟨h1, _, _, s1, _, ⟨r, hr, hs⟩, _⟩ := hx
 have h2 := (ent_less (d := K.d) (room := K.room) (F := K.F r.s) a b h [])
 refine ⟨r, hr, star_mono ?_ s1⟩
 exact (Ent.frame_left h2 [caC K.cc r.L K.d K.cap r.mp r.rd, lruC r.L K.cap (r.cs.map CI.it), amap r.mp kInt (pgM r.cs), pgsC r.cs]) h1 hs
theorem sumN_one (e : Pc) : sumN [e] = e.n := by simp [sumN]
theorem s_tspliceA (A : Asn) (T s tk : Nat) (us : List Nat) (K : SK) (hK : K.ok) (pg : Nat → Option (List Nat)) (sl fu : Nat) (a : Option Addr) (c : Nat) (e : Pc) (hA : PcRd A a 1 [e]) (he : e.ok) (hmid : LfOk [e]) (hu : us.length + 2 ≤ K.n) (ht : tk ≤ 1000000000) :
  Spec Tryz.prog 48 [.pointer (some ⟨T, 0, none⟩), .int .i64 0, .int .i64 0, .int .i64 0, .slice a 1 c] [trC T K.cc s, stC K pg sl (fu + 256 * K.n + 256 * K.n + 256 * K.n + 256 * K.n), spC s us tk, A]
   (fun v S => ∃ no', 1 ≤ no' ∧ no' ≤ us.length + 1 ∧ no' ∉ us ∧ v = .tuple #[.int .i64 (no' : Nat), .int .i64 0] ∧ S = [trC T K.cc s, stC K (updP pg no' (some (lfB no' [e]))) sl fu, spC s (no' :: us) (tk + 1), A]) := by
 have heo : ∀ p ∈ [e], p.ok := fun p hp => by rw [List.mem_singleton.1 hp]; exact he
 have hen : sumN [e] ≤ 1048576 := by rw [sumN_one]; exact he.2.2.2.1
 have he1 : e.n ≤ 1048576 := he.2.2.2.1
 refine spec_of_d Tryz.func48 rfl Tryz.results48 Tryz.ntmps48 rfl ?_
 repeat' first | refine wk ?_ | refine wc ?_ ?_ <;> intro h <;> try omega | fail
 refine o_alloc rfl rfl fun r10 => ?_
 refine o_alloc rfl rfl fun r11 => ?_
 repeat' first | refine wk ?_ | refine wc ?_ ?_ <;> intro h <;> try omega | fail
 refine c_call (s_tmay A a 1 c [e] hA rfl (by omega) heo hen) rfl xpkd rfl rfl ?_
 rintro v S ⟨rfl, rfl⟩
 refine l_tell rfl ?_
 repeat' first | refine wk ?_ | refine wc ?_ ?_ <;> intro h <;> try omega | fail
 refine c_call (s_tsize0 T) rfl .nil rfl rfl ?_
 rintro v S ⟨rfl, rfl⟩
 refine l_tell rfl ?_
 repeat' first | refine wk ?_ | refine wc ?_ ?_ <;> intro h <;> try omega | fail
 refine c_call (s_ttotal A a 1 c [e] hA rfl (by omega) hen) rfl xpkd rfl rfl ?_
 rintro v S ⟨rfl, rfl⟩
 refine l_tell rfl ?_
 rw [sumN_one]
 repeat' first | refine wk ?_ | refine wc ?_ ?_ <;> intro h <;> try omega | fail
 refine c_call (s_spMark s tk us) rfl xpkd rfl rfl ?_
 rintro v S ⟨tn, rfl, rfl⟩
 refine l_tell rfl ?_
 refine l_defer rfl rfl ?_
 repeat' first | refine wk ?_ | refine wc ?_ ?_ <;> intro h <;> try omega | fail
 refine l_defer rfl rfl ?_
 repeat' first | refine wk ?_ | refine wc ?_ ?_ <;> intro h <;> try omega | fail
 refine l_ent (ent_nil 88 4 _) ?_
 refine o_buildSlice rfl rfl rfl rfl rfl rfl rfl rfl rfl rfl rfl rfl fun pb => ?_
 refine l_ent ((Ent.pick (Pre := [A, own none 0 0 88 4 [], own (some ⟨pb, 0, none⟩) 3 3 83 1 ([⟨none, 0, 0, []⟩, ⟨a, 1, c, [e]⟩, ⟨none, 0, 0, []⟩].map JP.v), spC s us tk, cellsAt r11 29 [.int .i64 0], cellsAt r10 3 [.int .i64 0], trC T K.cc s, stC K pg sl (fu + 256 * K.n + 256 * K.n + 256 * K.n + 256 * K.n)]) xpkd).trans (ent_pk [A, own none 0 0 88 4 []] _)) ?_
 refine l_tell rfl ?_
 repeat' first | refine wk ?_ | refine wc ?_ ?_ <;> intro h <;> try omega | fail
 refine c_call (s_tjoin (pk [A, own none 0 0 88 4 []]) pb 3 [⟨none, 0, 0, []⟩, ⟨a, 1, c, [e]⟩, ⟨none, 0, 0, []⟩] (by
  intro q hq
  simp only [List.mem_cons, List.not_mem_nil, or_false] at hq
  rcases hq with rfl | rfl | rfl
  ·exact ⟨Rds.nil _ _ _, rfl⟩
  ·exact ⟨rds_pk (hA.ent (Ent.left [A] [own none 0 0 88 4 []])), rfl⟩
  ·exact ⟨Rds.nil _ _ _, rfl⟩) trivial (by
  intro p hp
  have hp' : p ∈ [e] := hp
  have := (hmid.2.2.1 p hp').2.1
  omega) (by show 1 ≤ 1000; omega) (by show 3 ≤ 1000; omega)) rfl xpkd rfl rfl ?_
 rintro v S ⟨a2, c2, rfl, rfl⟩
 rw [show (flatJ [⟨none, 0, 0, []⟩, ⟨a, 1, c, [e]⟩, ⟨none, 0, 0, []⟩]).length = 1 from rfl]
 refine l_same [own a2 1 c2 88 4 (pcs [e]), pk [A, own none 0 0 88 4 []], spC s us tk, cellsAt r11 29 [.int .i64 0], cellsAt r10 3 [.int .i64 0], trC T K.cc s, stC K pg sl (fu + 256 * K.n + 256 * K.n + 256 * K.n + 256 * K.n)] rfl ?_
 refine l_fact (p := 1 ≤ c2) (fun h hs => by obtain ⟨_, _, _, _, _, ⟨_, _, q3, _⟩, _⟩ := hs; exact q3) fun hc2 => ?_
 repeat' first | refine wk ?_ | refine wc ?_ ?_ <;> intro h <;> try omega | fail
 refine c_call (s_trooted0 T) rfl .nil rfl rfl ?_
 rintro v S ⟨rfl, rfl⟩
 refine l_tell rfl ?_
 repeat' first | refine wk ?_ | refine wc ?_ ?_ <;> intro h <;> try omega | fail
 refine o_alloc rfl rfl fun r22 => ?_
 repeat' first | refine wk ?_ | refine wc ?_ ?_ <;> intro h <;> try omega | fail
 refine t_draw (.eval 0 true (.eval 1 true (.eval 2 false (.eval 3 true (.eval 4 false (.eval 5 true (.eval 8 true (.eval 9 false (.eval 10 true (.eval 13 true (.eval 14 true (.eff 6 [2, 9] (.eval 7 true (.eff 11 [2, 4] (.eval 12 true (.eval 15 true (.eval 16 true .fin))) .stop)) .stop)))))))))))) rfl (by kernel_rfl) ?_
 repeat' first | refine wk ?_ | refine wc ?_ ?_ <;> intro h <;> try omega | fail
 refine c_call (s_trank0 T 0 0 0 (-1) 0) rfl .nil rfl rfl ?_
 rintro v S ⟨rfl, rfl⟩
 refine l_tell rfl ?_
 repeat' first | refine wk ?_ | refine wc ?_ ?_ <;> intro h <;> try omega | fail
 refine c_call (s_trank0 T _ _ _ _ _) rfl .nil rfl rfl ?_
 rintro v S ⟨rfl, rfl⟩
 refine l_tell rfl ?_
 repeat' first | refine wk ?_ | refine wc ?_ ?_ <;> intro h <;> try omega | fail
 refine c_call (s_tparted0 T 0 0 0 0 (-1)) rfl .nil rfl rfl ?_
 rintro v S ⟨rfl, rfl⟩
 refine l_tell rfl ?_
 repeat' first | refine wk ?_ | refine wc ?_ ?_ <;> intro h <;> try omega | fail
 refine o_alloc rfl rfl fun r23 => ?_
 refine o_alloc rfl rfl fun r24 => ?_
 repeat' first | refine wk ?_ | refine wc ?_ ?_ <;> intro h <;> try omega | fail
 refine c_call (s_tparted0 T 0 0 0 0 (-1)) rfl .nil rfl rfl ?_
 rintro v S ⟨rfl, rfl⟩
 refine l_tell rfl ?_
 repeat' first | refine wk ?_ | refine wc ?_ ?_ <;> intro h <;> try omega | fail
 refine o_alloc rfl rfl fun r25 => ?_
 refine o_alloc rfl rfl fun r26 => ?_
 repeat' first | refine wk ?_ | refine wc ?_ ?_ <;> intro h <;> try omega | fail
 refine t_draw (.eval 0 true (.eval 1 true (.eval 2 false (.eval 3 true (.eval 4 true (.eval 7 false (.eff 5 [2, 7] (.eff 6 [7] (.eff 8 [2] (.eff 9 [2, 7] (.eff 10 [] .fin .stop) .stop) (.eff 9 [2, 7] (.eff 8 [2] (.eff 10 [] .fin .stop) .stop) .stop)) (.eff 9 [2, 7] (.eff 6 [7] (.eff 8 [2] (.eff 10 [] .fin .stop) .stop) .stop) .stop)) (.eff 9 [2, 7] (.eff 5 [2, 7] (.eff 6 [7] (.eff 8 [2] (.eff 10 [] .fin .stop) .stop) .stop) .stop) .stop)))))))) rfl (by kernel_rfl) ?_
 repeat' first | refine wk ?_ | refine wc ?_ ?_ <;> intro h <;> try omega | fail
 refine d_eff rfl ?_ ?_
 ·refine l_ent ((Ent.pick (Pre := [stC K pg sl (fu + 256 * K.n + 256 * K.n + 256 * K.n + 256 * K.n), own a2 1 c2 88 4 (pcs [e]), pk [A, own none 0 0 88 4 []], spC s us tk, cellsAt r11 29 [.int .i64 0], cellsAt r10 3 [.int .i64 0], trC T K.cc s, cellsAt r23 167 [.int .i64 0, .int .i64 0, .int .i64 0, .int .i64 0, .int .i64 (-1)], cellsAt r26 167 [.int .i64 0, .int .i64 0, .int .i64 0, .int .i64 0, .int .i64 (-1)]]) xpkd).trans (ent_stless (fu + 256 * K.n + 256 * K.n + 256 * K.n + 256 * K.n) (fu + 256 * K.n) (by omega) _)) ?_
  refine c_call (s_tleaves (own a2 1 c2 88 4 (pcs [e])) T s tk us K hK pg sl fu a2 1 c2 [e] (Rds.own 0 rfl) rfl hc2 hmid hu ht) rfl xpkd rfl rfl ?_
  rintro v S ⟨no', n1, n2, n3, rfl, rfl⟩
  refine l_tell rfl ?_
  repeat' first | refine wk ?_ | refine wc ?_ ?_ <;> intro h <;> try omega | fail
  refine d_eff rfl ?_ ?_
  ·refine c_call (s_tput1 T no' 1 [e]) rfl .nil rfl rfl ?_
   rintro v S ⟨rfl, rfl⟩
   refine l_tell rfl ?_
   repeat' first | refine wk ?_ | refine wc ?_ ?_ <;> intro h <;> try omega | fail
   refine d_eff rfl ?_ ?_
   ·refine c_call (s_tput2 T no' 1 [e]) rfl .nil rfl rfl ?_
    rintro v S ⟨rfl, rfl⟩
    refine l_tell rfl ?_
    repeat' first | refine wk ?_ | refine wc ?_ ?_ <;> intro h <;> try omega | fail
    refine o_alloc rfl rfl fun r27 => ?_
    repeat' first | refine wk ?_ | refine wc ?_ ?_ <;> intro h <;> try omega | fail
    refine bd_ret (out_recov (d_89 _ _) rfl rfl ?_)
    refine out_cons (d_88 T r11 _) rfl rfl xpkd (fun S' hS => ?_)
    subst hS
    exact out_nil [trC T K.cc s, stC K (updP pg no' (some (lfB no' [e]))) sl fu, spC s (no' :: us) (tk + 1), A] (.cons (.cell fun N D => c_load (b := r10) rfl xfnd rfl rfl rfl) (.cons (.cell fun N D => c_load (b := r11) rfl xfnd rfl rfl rfl) .nil)) ((Ent.pick (Pre := [pk [A, own none 0 0 88 4 []], trC T K.cc s, stC K (updP pg no' (some (lfB no' [e]))) sl fu, spC s (no' :: us) (tk + 1)]) xpkd).trans ((ent_unpk [A, own none 0 0 88 4 []] _).trans (Ent.pick xpkd))) ⟨no', n1, n2, n3, rfl, rfl⟩
   ·refine d_eff rfl ?_ d_stop
    refine o_alloc rfl rfl fun r27 => ?_
    repeat' first | refine wk ?_ | refine wc ?_ ?_ <;> intro h <;> try omega | fail
    refine c_call (s_tput2 T no' 1 [e]) rfl .nil rfl rfl ?_
    rintro v S ⟨rfl, rfl⟩
    refine l_tell rfl ?_
    repeat' first | refine wk ?_ | refine wc ?_ ?_ <;> intro h <;> try omega | fail
    refine bd_ret (out_recov (d_89 _ _) rfl rfl ?_)
    refine out_cons (d_88 T r11 _) rfl rfl xpkd (fun S' hS => ?_)
    subst hS
    exact out_nil [trC T K.cc s, stC K (updP pg no' (some (lfB no' [e]))) sl fu, spC s (no' :: us) (tk + 1), A] (.cons (.cell fun N D => c_load (b := r10) rfl xfnd rfl rfl rfl) (.cons (.cell fun N D => c_load (b := r11) rfl xfnd rfl rfl rfl) .nil)) ((Ent.pick (Pre := [pk [A, own none 0 0 88 4 []], trC T K.cc s, stC K (updP pg no' (some (lfB no' [e]))) sl fu, spC s (no' :: us) (tk + 1)]) xpkd).trans ((ent_unpk [A, own none 0 0 88 4 []] _).trans (Ent.pick xpkd))) ⟨no', n1, n2, n3, rfl, rfl⟩
  ·refine d_eff rfl ?_ d_stop
   refine o_alloc rfl rfl fun r27 => ?_
   repeat' first | refine wk ?_ | refine wc ?_ ?_ <;> intro h <;> try omega | fail
   refine c_call (s_tput1 T no' 1 [e]) rfl .nil rfl rfl ?_
   rintro v S ⟨rfl, rfl⟩
   refine l_tell rfl ?_
   repeat' first | refine wk ?_ | refine wc ?_ ?_ <;> intro h <;> try omega | fail
   refine c_call (s_tput2 T no' 1 [e]) rfl .nil rfl rfl ?_
   rintro v S ⟨rfl, rfl⟩
   refine l_tell rfl ?_
   repeat' first | refine wk ?_ | refine wc ?_ ?_ <;> intro h <;> try omega | fail
   refine bd_ret (out_recov (d_89 _ _) rfl rfl ?_)
   refine out_cons (d_88 T r11 _) rfl rfl xpkd (fun S' hS => ?_)
   subst hS
   exact out_nil [trC T K.cc s, stC K (updP pg no' (some (lfB no' [e]))) sl fu, spC s (no' :: us) (tk + 1), A] (.cons (.cell fun N D => c_load (b := r10) rfl xfnd rfl rfl rfl) (.cons (.cell fun N D => c_load (b := r11) rfl xfnd rfl rfl rfl) .nil)) ((Ent.pick (Pre := [pk [A, own none 0 0 88 4 []], trC T K.cc s, stC K (updP pg no' (some (lfB no' [e]))) sl fu, spC s (no' :: us) (tk + 1)]) xpkd).trans ((ent_unpk [A, own none 0 0 88 4 []] _).trans (Ent.pick xpkd))) ⟨no', n1, n2, n3, rfl, rfl⟩
 ·refine d_eff rfl ?_ d_stop
  refine o_alloc rfl rfl fun r27 => ?_
  repeat' first | refine wk ?_ | refine wc ?_ ?_ <;> intro h <;> try omega | fail
  refine l_ent ((Ent.pick (Pre := [stC K pg sl (fu + 256 * K.n + 256 * K.n + 256 * K.n + 256 * K.n), own a2 1 c2 88 4 (pcs [e]), pk [A, own none 0 0 88 4 []], spC s us tk, cellsAt r11 29 [.int .i64 0], cellsAt r10 3 [.int .i64 0], trC T K.cc s, cellsAt r23 167 [.int .i64 0, .int .i64 0, .int .i64 0, .int .i64 0, .int .i64 (-1)], cellsAt r26 167 [.int .i64 0, .int .i64 0, .int .i64 0, .int .i64 0, .int .i64 (-1)], cellsAt r27 167 [.int .i64 0, .int .i64 0, .int .i64 0, .int .i64 0, .int .i64 0]]) xpkd).trans (ent_stless (fu + 256 * K.n + 256 * K.n + 256 * K.n + 256 * K.n) (fu + 256 * K.n) (by omega) _)) ?_
  refine c_call (s_tleaves (own a2 1 c2 88 4 (pcs [e])) T s tk us K hK pg sl fu a2 1 c2 [e] (Rds.own 0 rfl) rfl hc2 hmid hu ht) rfl xpkd rfl rfl ?_
  rintro v S ⟨no', n1, n2, n3, rfl, rfl⟩
  refine l_tell rfl ?_
  repeat' first | refine wk ?_ | refine wc ?_ ?_ <;> intro h <;> try omega | fail
  refine c_call (s_tput1 T no' 1 [e]) rfl .nil rfl rfl ?_
  rintro v S ⟨rfl, rfl⟩
  refine l_tell rfl ?_
  repeat' first | refine wk ?_ | refine wc ?_ ?_ <;> intro h <;> try omega | fail
  refine c_call (s_tput2 T no' 1 [e]) rfl .nil rfl rfl ?_
  rintro v S ⟨rfl, rfl⟩
  refine l_tell rfl ?_
  repeat' first | refine wk ?_ | refine wc ?_ ?_ <;> intro h <;> try omega | fail
  refine bd_ret (out_recov (d_89 _ _) rfl rfl ?_)
  refine out_cons (d_88 T r11 _) rfl rfl xpkd (fun S' hS => ?_)
  subst hS
  exact out_nil [trC T K.cc s, stC K (updP pg no' (some (lfB no' [e]))) sl fu, spC s (no' :: us) (tk + 1), A] (.cons (.cell fun N D => c_load (b := r10) rfl xfnd rfl rfl rfl) (.cons (.cell fun N D => c_load (b := r11) rfl xfnd rfl rfl rfl) .nil)) ((Ent.pick (Pre := [pk [A, own none 0 0 88 4 []], trC T K.cc s, stC K (updP pg no' (some (lfB no' [e]))) sl fu, spC s (no' :: us) (tk + 1)]) xpkd).trans ((ent_unpk [A, own none 0 0 88 4 []] _).trans (Ent.pick xpkd))) ⟨no', n1, n2, n3, rfl, rfl⟩
theorem s_tspliceB (A : Asn) (T s tk : Nat) (us : List Nat) (K : SK) (hK : K.ok) (pg : Nat → Option (List Nat)) (sl fu : Nat) (a : Option Addr) (c : Nat) (e : Pc) (hA : PcRd A a 1 [e]) (he : e.ok) (hmid : LfOk [e]) (no : Nat) (ps : List Pc) (hp : pg no = some (lfB no ps)) (hps : LfOk ps) (h0 : 1 ≤ no) (hno : no < 1048576) (hu : us.length + 2 ≤ K.n) (ht : tk ≤ 1000000000) :
  Spec Tryz.prog 48 [.pointer (some ⟨T, 0, none⟩), .int .i64 no, .int .i64 0, .int .i64 ((sumN ps : Nat) : Int), .slice a 1 c] [trC T K.cc s, stC K pg sl (fu + 256 * K.n + 256 * K.n + 256 * K.n + 256 * K.n), spC s us tk, A]
   (fun v S => ∃ no', 1 ≤ no' ∧ no' ≤ us.length + 1 ∧ no' ∉ us ∧ v = .tuple #[.int .i64 (no' : Nat), .int .i64 0] ∧ S = [trC T K.cc s, stC K (updP pg no' (some (lfB no' [e]))) sl fu, spC s (no' :: us) (tk + 1), A]) := by
 have hps2 := hps.2.2.2
 have hps1 : 1 ≤ sumN ps := by
  match ps, hps with
  | p :: r, h => have := h.2.2.1 p (List.mem_cons_self ..); simp only [sumN, List.map_cons, List.sum_cons]; have := this.2.2.1; omega
  | [], h => exact absurd h.1 (by decide)
 have heo : ∀ p ∈ [e], p.ok := fun p hp => by rw [List.mem_singleton.1 hp]; exact he
 have hen : sumN [e] ≤ 1048576 := by rw [sumN_one]; exact he.2.2.2.1
 have he1 : e.n ≤ 1048576 := he.2.2.2.1
 refine spec_of_d Tryz.func48 rfl Tryz.results48 Tryz.ntmps48 rfl ?_
 repeat' first | refine wk ?_ | refine wc ?_ ?_ <;> intro h <;> try omega | fail
 refine o_alloc rfl rfl fun r10 => ?_
 refine o_alloc rfl rfl fun r11 => ?_
 repeat' first | refine wk ?_ | refine wc ?_ ?_ <;> intro h <;> try omega | fail
 refine c_call (s_tmay A a 1 c [e] hA rfl (by omega) heo hen) rfl xpkd rfl rfl ?_
 rintro v S ⟨rfl, rfl⟩
 refine l_tell rfl ?_
 repeat' first | refine wk ?_ | refine wc ?_ ?_ <;> intro h <;> try omega | fail
 refine c_call (s_tsize T s K hK pg sl (fu + 256 * K.n + 256 * K.n + 256 * K.n) no ps hp hps h0 hno) rfl xpkd rfl rfl ?_
 rintro v S ⟨rfl, rfl⟩
 refine l_tell rfl ?_
 repeat' first | refine wk ?_ | refine wc ?_ ?_ <;> intro h <;> try omega | fail
 refine c_call (s_ttotal A a 1 c [e] hA rfl (by omega) hen) rfl xpkd rfl rfl ?_
 rintro v S ⟨rfl, rfl⟩
 refine l_tell rfl ?_
 rw [sumN_one]
 repeat' first | refine wk ?_ | refine wc ?_ ?_ <;> intro h <;> try omega | fail
 refine c_call (s_spMark s tk us) rfl xpkd rfl rfl ?_
 rintro v S ⟨tn, rfl, rfl⟩
 refine l_tell rfl ?_
 refine l_defer rfl rfl ?_
 repeat' first | refine wk ?_ | refine wc ?_ ?_ <;> intro h <;> try omega | fail
 refine l_defer rfl rfl ?_
 repeat' first | refine wk ?_ | refine wc ?_ ?_ <;> intro h <;> try omega | fail
 refine l_ent (ent_nil 88 4 _) ?_
 refine o_buildSlice rfl rfl rfl rfl rfl rfl rfl rfl rfl rfl rfl rfl fun pb => ?_
 refine l_ent ((Ent.pick (Pre := [A, own none 0 0 88 4 [], own (some ⟨pb, 0, none⟩) 3 3 83 1 ([⟨none, 0, 0, []⟩, ⟨a, 1, c, [e]⟩, ⟨none, 0, 0, []⟩].map JP.v), spC s us tk, cellsAt r11 29 [.int .i64 0], cellsAt r10 3 [.int .i64 0], trC T K.cc s, stC K pg sl (fu + 256 * K.n + 256 * K.n + 256 * K.n)]) xpkd).trans (ent_pk [A, own none 0 0 88 4 []] _)) ?_
 refine l_tell rfl ?_
 repeat' first | refine wk ?_ | refine wc ?_ ?_ <;> intro h <;> try omega | fail
 refine c_call (s_tjoin (pk [A, own none 0 0 88 4 []]) pb 3 [⟨none, 0, 0, []⟩, ⟨a, 1, c, [e]⟩, ⟨none, 0, 0, []⟩] (by
  intro q hq
  simp only [List.mem_cons, List.not_mem_nil, or_false] at hq
  rcases hq with rfl | rfl | rfl
  ·exact ⟨Rds.nil _ _ _, rfl⟩
  ·exact ⟨rds_pk (hA.ent (Ent.left [A] [own none 0 0 88 4 []])), rfl⟩
  ·exact ⟨Rds.nil _ _ _, rfl⟩) trivial (by
  intro p hp
  have hp' : p ∈ [e] := hp
  have := (hmid.2.2.1 p hp').2.1
  omega) (by show 1 ≤ 1000; omega) (by show 3 ≤ 1000; omega)) rfl xpkd rfl rfl ?_
 rintro v S ⟨a2, c2, rfl, rfl⟩
 rw [show (flatJ [⟨none, 0, 0, []⟩, ⟨a, 1, c, [e]⟩, ⟨none, 0, 0, []⟩]).length = 1 from rfl]
 refine l_same [own a2 1 c2 88 4 (pcs [e]), pk [A, own none 0 0 88 4 []], spC s us tk, cellsAt r11 29 [.int .i64 0], cellsAt r10 3 [.int .i64 0], trC T K.cc s, stC K pg sl (fu + 256 * K.n + 256 * K.n + 256 * K.n)] rfl ?_
 refine l_fact (p := 1 ≤ c2) (fun h hs => by obtain ⟨_, _, _, _, _, ⟨_, _, q3, _⟩, _⟩ := hs; exact q3) fun hc2 => ?_
 repeat' first | refine wk ?_ | refine wc ?_ ?_ <;> intro h <;> try omega | fail
 refine c_call (s_trooted T s K hK pg sl (fu + 256 * K.n + 256 * K.n) no ps hp hps h0 hno) rfl xpkd rfl rfl ?_
 rintro v S ⟨rfl, rfl⟩
 refine l_tell rfl ?_
 repeat' first | refine wk ?_ | refine wc ?_ ?_ <;> intro h <;> try omega | fail
 refine o_alloc rfl rfl fun r22 => ?_
 rw [Int.zero_add]
 repeat' first | refine wk ?_ | refine wc ?_ ?_ <;> intro h <;> try omega | fail
 refine t_draw (.eval 0 true (.eval 1 true (.eval 2 false (.eval 3 true (.eval 4 false (.eval 5 true (.eval 8 true (.eval 9 false (.eval 10 true (.eval 13 true (.eval 14 true (.eff 6 [2, 9] (.eval 7 true (.eff 11 [2, 4] (.eval 12 true (.eval 15 true (.eval 16 true .fin))) .stop)) .stop)))))))))))) rfl (by kernel_rfl) ?_
 repeat' first | refine wk ?_ | refine wc ?_ ?_ <;> intro h <;> try omega | fail
 refine c_call (s_trankAll T no ps.length ps hps1) rfl .nil rfl rfl ?_
 rintro v S ⟨rfl, rfl⟩
 refine l_tell rfl ?_
 repeat' first | refine wk ?_ | refine wc ?_ ?_ <;> intro h <;> try omega | fail
 refine c_call (s_trank0 T _ _ _ _ _) rfl .nil rfl rfl ?_
 rintro v S ⟨rfl, rfl⟩
 refine l_tell rfl ?_
 repeat' first | refine wk ?_ | refine wc ?_ ?_ <;> intro h <;> try omega | fail
 refine c_call (s_tparted0 T _ _ _ _ _) rfl .nil rfl rfl ?_
 rintro v S ⟨rfl, rfl⟩
 refine l_tell rfl ?_
 repeat' first | refine wk ?_ | refine wc ?_ ?_ <;> intro h <;> try omega | fail
 refine o_alloc rfl rfl fun r23 => ?_
 refine o_alloc rfl rfl fun r24 => ?_
 repeat' first | refine wk ?_ | refine wc ?_ ?_ <;> intro h <;> try omega | fail
 refine c_call (s_tpartedAll T _ _ _ _ _ _ (by omega) (by omega)) rfl .nil rfl rfl ?_
 rintro v S ⟨rfl, rfl⟩
 refine l_tell rfl ?_
 repeat' first | refine wk ?_ | refine wc ?_ ?_ <;> intro h <;> try omega | fail
 refine o_alloc rfl rfl fun r25 => ?_
 refine o_alloc rfl rfl fun r26 => ?_
 repeat' first | refine wk ?_ | refine wc ?_ ?_ <;> intro h <;> try omega | fail
 refine t_draw (.eval 0 true (.eval 1 true (.eval 2 false (.eval 3 true (.eval 4 true (.eval 7 false (.eff 5 [2, 7] (.eff 6 [7] (.eff 8 [2] (.eff 9 [2, 7] (.eff 10 [] .fin .stop) .stop) (.eff 9 [2, 7] (.eff 8 [2] (.eff 10 [] .fin .stop) .stop) .stop)) (.eff 9 [2, 7] (.eff 6 [7] (.eff 8 [2] (.eff 10 [] .fin .stop) .stop) .stop) .stop)) (.eff 9 [2, 7] (.eff 5 [2, 7] (.eff 6 [7] (.eff 8 [2] (.eff 10 [] .fin .stop) .stop) .stop) .stop) .stop)))))))) rfl (by kernel_rfl) ?_
 repeat' first | refine wk ?_ | refine wc ?_ ?_ <;> intro h <;> try omega | fail
 refine d_eff rfl ?_ ?_
 ·refine l_ent ((Ent.pick (Pre := [stC K pg sl (fu + 256 * K.n + 256 * K.n), own a2 1 c2 88 4 (pcs [e]), pk [A, own none 0 0 88 4 []], spC s us tk, cellsAt r11 29 [.int .i64 0], cellsAt r10 3 [.int .i64 0], trC T K.cc s, cellsAt r23 167 [.int .i64 0, .int .i64 0, .int .i64 0, .int .i64 0, .int .i64 (-1)], cellsAt r26 167 [.int .i64 0, .int .i64 0, .int .i64 0, .int .i64 0, .int .i64 (-1)]]) xpkd).trans (ent_stless (fu + 256 * K.n + 256 * K.n) (fu + 256 * K.n) (by omega) _)) ?_
  refine c_call (s_tleaves (own a2 1 c2 88 4 (pcs [e])) T s tk us K hK pg sl fu a2 1 c2 [e] (Rds.own 0 rfl) rfl hc2 hmid hu ht) rfl xpkd rfl rfl ?_
  rintro v S ⟨no', n1, n2, n3, rfl, rfl⟩
  refine l_tell rfl ?_
  repeat' first | refine wk ?_ | refine wc ?_ ?_ <;> intro h <;> try omega | fail
  refine d_eff rfl ?_ ?_
  ·refine c_call (s_tput1 T no' 1 [e]) rfl .nil rfl rfl ?_
   rintro v S ⟨rfl, rfl⟩
   refine l_tell rfl ?_
   repeat' first | refine wk ?_ | refine wc ?_ ?_ <;> intro h <;> try omega | fail
   refine d_eff rfl ?_ ?_
   ·refine c_call (s_tput2 T no' 1 [e]) rfl .nil rfl rfl ?_
    rintro v S ⟨rfl, rfl⟩
    refine l_tell rfl ?_
    repeat' first | refine wk ?_ | refine wc ?_ ?_ <;> intro h <;> try omega | fail
    refine o_alloc rfl rfl fun r27 => ?_
    repeat' first | refine wk ?_ | refine wc ?_ ?_ <;> intro h <;> try omega | fail
    refine bd_ret (out_recov (d_89 _ _) rfl rfl ?_)
    refine out_cons (d_88 T r11 _) rfl rfl xpkd (fun S' hS => ?_)
    subst hS
    exact out_nil [trC T K.cc s, stC K (updP pg no' (some (lfB no' [e]))) sl fu, spC s (no' :: us) (tk + 1), A] (.cons (.cell fun N D => c_load (b := r10) rfl xfnd rfl rfl rfl) (.cons (.cell fun N D => c_load (b := r11) rfl xfnd rfl rfl rfl) .nil)) ((Ent.pick (Pre := [pk [A, own none 0 0 88 4 []], trC T K.cc s, stC K (updP pg no' (some (lfB no' [e]))) sl fu, spC s (no' :: us) (tk + 1)]) xpkd).trans ((ent_unpk [A, own none 0 0 88 4 []] _).trans (Ent.pick xpkd))) ⟨no', n1, n2, n3, rfl, rfl⟩
   ·refine d_eff rfl ?_ d_stop
    refine o_alloc rfl rfl fun r27 => ?_
    repeat' first | refine wk ?_ | refine wc ?_ ?_ <;> intro h <;> try omega | fail
    refine c_call (s_tput2 T no' 1 [e]) rfl .nil rfl rfl ?_
    rintro v S ⟨rfl, rfl⟩
    refine l_tell rfl ?_
    repeat' first | refine wk ?_ | refine wc ?_ ?_ <;> intro h <;> try omega | fail
    refine bd_ret (out_recov (d_89 _ _) rfl rfl ?_)
    refine out_cons (d_88 T r11 _) rfl rfl xpkd (fun S' hS => ?_)
    subst hS
    exact out_nil [trC T K.cc s, stC K (updP pg no' (some (lfB no' [e]))) sl fu, spC s (no' :: us) (tk + 1), A] (.cons (.cell fun N D => c_load (b := r10) rfl xfnd rfl rfl rfl) (.cons (.cell fun N D => c_load (b := r11) rfl xfnd rfl rfl rfl) .nil)) ((Ent.pick (Pre := [pk [A, own none 0 0 88 4 []], trC T K.cc s, stC K (updP pg no' (some (lfB no' [e]))) sl fu, spC s (no' :: us) (tk + 1)]) xpkd).trans ((ent_unpk [A, own none 0 0 88 4 []] _).trans (Ent.pick xpkd))) ⟨no', n1, n2, n3, rfl, rfl⟩
  ·refine d_eff rfl ?_ d_stop
   refine o_alloc rfl rfl fun r27 => ?_
   repeat' first | refine wk ?_ | refine wc ?_ ?_ <;> intro h <;> try omega | fail
   refine c_call (s_tput1 T no' 1 [e]) rfl .nil rfl rfl ?_
   rintro v S ⟨rfl, rfl⟩
   refine l_tell rfl ?_
   repeat' first | refine wk ?_ | refine wc ?_ ?_ <;> intro h <;> try omega | fail
   refine c_call (s_tput2 T no' 1 [e]) rfl .nil rfl rfl ?_
   rintro v S ⟨rfl, rfl⟩
   refine l_tell rfl ?_
   repeat' first | refine wk ?_ | refine wc ?_ ?_ <;> intro h <;> try omega | fail
   refine bd_ret (out_recov (d_89 _ _) rfl rfl ?_)
   refine out_cons (d_88 T r11 _) rfl rfl xpkd (fun S' hS => ?_)
   subst hS
   exact out_nil [trC T K.cc s, stC K (updP pg no' (some (lfB no' [e]))) sl fu, spC s (no' :: us) (tk + 1), A] (.cons (.cell fun N D => c_load (b := r10) rfl xfnd rfl rfl rfl) (.cons (.cell fun N D => c_load (b := r11) rfl xfnd rfl rfl rfl) .nil)) ((Ent.pick (Pre := [pk [A, own none 0 0 88 4 []], trC T K.cc s, stC K (updP pg no' (some (lfB no' [e]))) sl fu, spC s (no' :: us) (tk + 1)]) xpkd).trans ((ent_unpk [A, own none 0 0 88 4 []] _).trans (Ent.pick xpkd))) ⟨no', n1, n2, n3, rfl, rfl⟩
 ·refine d_eff rfl ?_ d_stop
  refine o_alloc rfl rfl fun r27 => ?_
  repeat' first | refine wk ?_ | refine wc ?_ ?_ <;> intro h <;> try omega | fail
  refine l_ent ((Ent.pick (Pre := [stC K pg sl (fu + 256 * K.n + 256 * K.n), own a2 1 c2 88 4 (pcs [e]), pk [A, own none 0 0 88 4 []], spC s us tk, cellsAt r11 29 [.int .i64 0], cellsAt r10 3 [.int .i64 0], trC T K.cc s, cellsAt r23 167 [.int .i64 0, .int .i64 0, .int .i64 0, .int .i64 0, .int .i64 (-1)], cellsAt r26 167 [.int .i64 0, .int .i64 0, .int .i64 0, .int .i64 0, .int .i64 (-1)], cellsAt r27 167 [.int .i64 0, .int .i64 0, .int .i64 0, .int .i64 0, .int .i64 0]]) xpkd).trans (ent_stless (fu + 256 * K.n + 256 * K.n) (fu + 256 * K.n) (by omega) _)) ?_
  refine c_call (s_tleaves (own a2 1 c2 88 4 (pcs [e])) T s tk us K hK pg sl fu a2 1 c2 [e] (Rds.own 0 rfl) rfl hc2 hmid hu ht) rfl xpkd rfl rfl ?_
  rintro v S ⟨no', n1, n2, n3, rfl, rfl⟩
  refine l_tell rfl ?_
  repeat' first | refine wk ?_ | refine wc ?_ ?_ <;> intro h <;> try omega | fail
  refine c_call (s_tput1 T no' 1 [e]) rfl .nil rfl rfl ?_
  rintro v S ⟨rfl, rfl⟩
  refine l_tell rfl ?_
  repeat' first | refine wk ?_ | refine wc ?_ ?_ <;> intro h <;> try omega | fail
  refine c_call (s_tput2 T no' 1 [e]) rfl .nil rfl rfl ?_
  rintro v S ⟨rfl, rfl⟩
  refine l_tell rfl ?_
  repeat' first | refine wk ?_ | refine wc ?_ ?_ <;> intro h <;> try omega | fail
  refine bd_ret (out_recov (d_89 _ _) rfl rfl ?_)
  refine out_cons (d_88 T r11 _) rfl rfl xpkd (fun S' hS => ?_)
  subst hS
  exact out_nil [trC T K.cc s, stC K (updP pg no' (some (lfB no' [e]))) sl fu, spC s (no' :: us) (tk + 1), A] (.cons (.cell fun N D => c_load (b := r10) rfl xfnd rfl rfl rfl) (.cons (.cell fun N D => c_load (b := r11) rfl xfnd rfl rfl rfl) .nil)) ((Ent.pick (Pre := [pk [A, own none 0 0 88 4 []], trC T K.cc s, stC K (updP pg no' (some (lfB no' [e]))) sl fu, spC s (no' :: us) (tk + 1)]) xpkd).trans ((ent_unpk [A, own none 0 0 88 4 []] _).trans (Ent.pick xpkd))) ⟨no', n1, n2, n3, rfl, rfl⟩
end Go.Ox
end
