/- WholeKept, part 29. No condition. -/
import Derived.Test.YtonpakokjgloaaaGreatOx28
set_option linter.all false
section
set_option maxRecDepth 100000
set_option maxHeartbeats 3200000
namespace Go.Ox
open Go Go.Proofs
theorem s_tspliceC (A : Asn) (T s tk : Nat) (us : List Nat) (K : SK) (hK : K.ok) (pg : Nat → Option (List Nat)) (sl fu : Nat) (a : Option Addr) (c : Nat) (e : Pc) (hA : PcRd A a 1 [e]) (he : e.ok) (no n : Nat) (o : List Pc) (x : Pc) (hp : pg no = some (lfB no (o ++ [x]))) (hps : LfOk (o ++ [x])) (h0 : 1 ≤ no) (hno : no < 1048576) (hn1 : 1 ≤ n) (hn2 : sumN o ≤ n) (hn3 : n < sumN (o ++ [x])) (hmid : LfOk [e, cutP x (n - sumN o)]) (hsep : sepd e (cutP x (n - sumN o))) (hbig : sumN (o ++ [x]) - n + e.n ≤ 1048576) (hu : us.length + 2 ≤ K.n) (ht : tk ≤ 1000000000) :
  Spec Tryz.prog 48 [.pointer (some ⟨T, 0, none⟩), .int .i64 no, .int .i64 0, .int .i64 (n : Int), .slice a 1 c] [trC T K.cc s, stC K pg sl (fu + 256 * K.n + 256 * K.n + 256 * K.n + 256 * K.n), spC s us tk, A]
   (fun v S => ∃ no', 1 ≤ no' ∧ no' ≤ us.length + 1 ∧ no' ∉ us ∧ v = .tuple #[.int .i64 (no' : Nat), .int .i64 0] ∧ S = [trC T K.cc s, stC K (updP pg no' (some (lfB no' [e, cutP x (n - sumN o)]))) sl fu, spC s (no' :: us) (tk + 1), A]) := by
 have hps2 := hps.2.2.2
 have hxs : sumN (o ++ [x]) = sumN o + x.n := by rw [sumN_append, sumN_one]
 have hps1 : 1 ≤ sumN (o ++ [x]) := by omega
 have hxo : x.ok := hps.2.2.1 x (by simp)
 have hol : o.length < (o ++ [x]).length := by simp
 have e1 : (o ++ [x])[o.length]'hol = x := by simp
 have e2 : (o ++ [x]).take o.length = o := by simp
 have e3 : (o ++ [x]).take (o.length + 1) = o ++ [x] := List.take_of_length_le (by simp)
 have hsk := s_tseek T s K hK pg sl (fu + 256 * K.n + 256 * K.n) no n o.length (o ++ [x]) hp hps hno hol (by rw [e2]; exact hn2) (by rw [e3]; exact hn3)
 rw [e1, e2] at hsk
 have heo : ∀ p ∈ [e], p.ok := fun p hp => by rw [List.mem_singleton.1 hp]; exact he
 have hen : sumN [e] ≤ 1048576 := by rw [sumN_one]; exact he.2.2.2.1
 have he1 : e.n ≤ 1048576 := he.2.2.2.1
 refine spec_of_d Tryz.func48 rfl Tryz.results48 Tryz.ntmps48 rfl ?_
 repeat' first | refine wk ?_ | refine wc ?_ ?_ <;> intro h <;> try omega | fail
 refine o_alloc rfl rfl fun r10 => ?_
 refine o_alloc rfl rfl fun r11 => ?_
 repeat' first | refine wk ?_ | refine wc ?_ ?_ <;> intro h <;> try omega | fail
 refine c_call (s_tmay A a 1 c [e] hA rfl (by omega) heo hen) rfl xpkd rfl rfl ?_
 rintro v S ⟨rfl, rfl⟩
 refine l_tell rfl ?_
 repeat' first | refine wk ?_ | refine wc ?_ ?_ <;> intro h <;> try omega | fail
 refine c_call (s_tsize T s K hK pg sl (fu + 256 * K.n + 256 * K.n + 256 * K.n) no (o ++ [x]) hp hps h0 hno) rfl xpkd rfl rfl ?_
 rintro v S ⟨rfl, rfl⟩
 refine l_tell rfl ?_
 repeat' first | refine wk ?_ | refine wc ?_ ?_ <;> intro h <;> try omega | fail
 refine c_call (s_ttotal A a 1 c [e] hA rfl (by omega) hen) rfl xpkd rfl rfl ?_
 rintro v S ⟨rfl, rfl⟩
 refine l_tell rfl ?_
 rw [sumN_one]
 repeat' first | refine wk ?_ | refine wc ?_ ?_ <;> intro h <;> try omega | fail
 refine c_call (s_spMark s tk us) rfl xpkd rfl rfl ?_
 rintro v S ⟨tn, rfl, rfl⟩
 refine l_tell rfl ?_
 refine l_defer rfl rfl ?_
 repeat' first | refine wk ?_ | refine wc ?_ ?_ <;> intro h <;> try omega | fail
 refine l_defer rfl rfl ?_
 repeat' first | refine wk ?_ | refine wc ?_ ?_ <;> intro h <;> try omega | fail
 rw [Int.zero_add]
 refine c_call hsk rfl xpkd rfl rfl ?_
 rintro v S ⟨rfl, rfl⟩
 refine l_tell rfl ?_
 repeat' first | refine wk ?_ | refine wc ?_ ?_ <;> intro h <;> try omega | fail
 refine o_alloc rfl rfl fun r19 => ?_
 repeat' first | refine wk ?_ | refine wc ?_ ?_ <;> intro h <;> try omega | fail
 refine t_draw (.eval 0 false (.eval 1 true (.eval 2 true (.eval 3 true (.eval 4 true (.eval 5 true (.eval 6 true (.eval 7 true (.eval 8 false (.eval 10 true (.eval 11 true (.eval 12 true (.eval 13 false (.eval 14 true (.eff 9 [13] (.eff 15 [13] (.eff 16 [] .fin .stop) .stop) .stop))))))))))))))) rfl (by kernel_rfl) ?_
 repeat' first | refine wk ?_ | refine wc ?_ ?_ <;> intro h <;> try omega | fail
 have e4 : ((0 : Int) + (n : Int) - ((sumN o : Nat) : Int)) = ((n - sumN o : Nat) : Int) := by omega
 rw [e4]
 refine c_call (s_tpart x (n - sumN o) (by omega) hxo) rfl .nil rfl rfl ?_
 rintro v S ⟨qb, rfl, rfl⟩
 refine l_tell rfl ?_
 repeat' first | refine wk ?_ | refine wc ?_ ?_ <;> intro h <;> try omega | fail
 refine o_buildSlice rfl rfl rfl rfl rfl rfl rfl rfl rfl rfl rfl rfl fun pb => ?_
 refine l_ent ((Ent.pick (Pre := [A, own (some ⟨qb, 0, none⟩) 1 1 88 4 (pcs [cutP x (n - sumN o)]), own (some ⟨pb, 0, none⟩) 3 3 83 1 ([⟨none, 0, 0, []⟩, ⟨a, 1, c, [e]⟩, ⟨some ⟨qb, 0, none⟩, 1, 1, [cutP x (n - sumN o)]⟩].map JP.v), spC s us tk, cellsAt r11 29 [.int .i64 0], cellsAt r10 3 [.int .i64 0], trC T K.cc s, stC K pg sl (fu + 256 * K.n + 256 * K.n)]) xpkd).trans (ent_pk [A, own (some ⟨qb, 0, none⟩) 1 1 88 4 (pcs [cutP x (n - sumN o)])] _)) ?_
 refine l_tell rfl ?_
 repeat' first | refine wk ?_ | refine wc ?_ ?_ <;> intro h <;> try omega | fail
 refine c_call (s_tjoin (pk [A, own (some ⟨qb, 0, none⟩) 1 1 88 4 (pcs [cutP x (n - sumN o)])]) pb 3 [⟨none, 0, 0, []⟩, ⟨a, 1, c, [e]⟩, ⟨some ⟨qb, 0, none⟩, 1, 1, [cutP x (n - sumN o)]⟩] (by
  intro q hq
  simp only [List.mem_cons, List.not_mem_nil, or_false] at hq
  rcases hq with rfl | rfl | rfl
  ·exact ⟨Rds.nil _ _ _, rfl⟩
  ·exact ⟨rds_pk (hA.ent (Ent.left [A] [own (some ⟨qb, 0, none⟩) 1 1 88 4 (pcs [cutP x (n - sumN o)])])), rfl⟩
  ·exact ⟨rds_pk ((Rds.own (S := [own (some ⟨qb, 0, none⟩) 1 1 88 4 (pcs [cutP x (n - sumN o)])]) 0 rfl).ent (Ent.drop A _)), rfl⟩) ⟨hsep, trivial⟩ (by
  intro p hp
  have hp' : p ∈ [e, cutP x (n - sumN o)] := hp
  have := (hmid.2.2.1 p hp').2.1
  omega) (by show 2 ≤ 1000; omega) (by show 3 ≤ 1000; omega)) rfl xpkd rfl rfl ?_
 rintro v S ⟨a2, c2, rfl, rfl⟩
 rw [show (flatJ [⟨none, 0, 0, []⟩, ⟨a, 1, c, [e]⟩, ⟨some ⟨qb, 0, none⟩, 1, 1, [cutP x (n - sumN o)]⟩]).length = 2 from rfl]
 refine l_same [own a2 2 c2 88 4 (pcs [e, cutP x (n - sumN o)]), pk [A, own (some ⟨qb, 0, none⟩) 1 1 88 4 (pcs [cutP x (n - sumN o)])], spC s us tk, cellsAt r11 29 [.int .i64 0], cellsAt r10 3 [.int .i64 0], trC T K.cc s, stC K pg sl (fu + 256 * K.n + 256 * K.n)] rfl ?_
 refine l_fact (p := 2 ≤ c2) (fun h hs => by obtain ⟨_, _, _, _, _, ⟨_, _, q3, _⟩, _⟩ := hs; exact q3) fun hc2 => ?_
 repeat' first | refine wk ?_ | refine wc ?_ ?_ <;> intro h <;> try omega | fail
 refine c_call (s_trooted T s K hK pg sl (fu + 256 * K.n) no (o ++ [x]) hp hps h0 hno) rfl xpkd rfl rfl ?_
 rintro v S ⟨rfl, rfl⟩
 refine l_tell rfl ?_
 repeat' first | refine wk ?_ | refine wc ?_ ?_ <;> intro h <;> try omega | fail
 refine o_alloc rfl rfl fun r22 => ?_
 rw [show (((sumN o : Nat) : Int) + (x.n : Int)) = ((sumN (o ++ [x]) : Nat) : Int) by omega]
 repeat' first | refine wk ?_ | refine wc ?_ ?_ <;> intro h <;> try omega | fail
 refine t_draw (.eval 0 true (.eval 1 true (.eval 2 false (.eval 3 true (.eval 4 false (.eval 5 true (.eval 8 true (.eval 9 false (.eval 10 true (.eval 13 true (.eval 14 true (.eff 6 [2, 9] (.eval 7 true (.eff 11 [2, 4] (.eval 12 true (.eval 15 true (.eval 16 true .fin))) .stop)) .stop)))))))))))) rfl (by kernel_rfl) ?_
 repeat' first | refine wk ?_ | refine wc ?_ ?_ <;> intro h <;> try omega | fail
 refine c_call (s_trankAll T no (o ++ [x]).length (o ++ [x]) hps1) rfl .nil rfl rfl ?_
 rintro v S ⟨rfl, rfl⟩
 refine l_tell rfl ?_
 repeat' first | refine wk ?_ | refine wc ?_ ?_ <;> intro h <;> try omega | fail
 refine c_call (s_trank0 T _ _ _ _ _) rfl .nil rfl rfl ?_
 rintro v S ⟨rfl, rfl⟩
 refine l_tell rfl ?_
 repeat' first | refine wk ?_ | refine wc ?_ ?_ <;> intro h <;> try omega | fail
 refine c_call (s_tparted0 T _ _ _ _ _) rfl .nil rfl rfl ?_
 rintro v S ⟨rfl, rfl⟩
 refine l_tell rfl ?_
 repeat' first | refine wk ?_ | refine wc ?_ ?_ <;> intro h <;> try omega | fail
 refine o_alloc rfl rfl fun r23 => ?_
 refine o_alloc rfl rfl fun r24 => ?_
 repeat' first | refine wk ?_ | refine wc ?_ ?_ <;> intro h <;> try omega | fail
 refine c_call (s_tpartedAll T _ _ _ _ _ _ (by omega) (by omega)) rfl .nil rfl rfl ?_
 rintro v S ⟨rfl, rfl⟩
 refine l_tell rfl ?_
 repeat' first | refine wk ?_ | refine wc ?_ ?_ <;> intro h <;> try omega | fail
 refine o_alloc rfl rfl fun r25 => ?_
 refine o_alloc rfl rfl fun r26 => ?_
 repeat' first | refine wk ?_ | refine wc ?_ ?_ <;> intro h <;> try omega | fail
 refine t_draw (.eval 0 true (.eval 1 true (.eval 2 false (.eval 3 true (.eval 4 true (.eval 7 false (.eff 5 [2, 7] (.eff 6 [7] (.eff 8 [2] (.eff 9 [2, 7] (.eff 10 [] .fin .stop) .stop) (.eff 9 [2, 7] (.eff 8 [2] (.eff 10 [] .fin .stop) .stop) .stop)) (.eff 9 [2, 7] (.eff 6 [7] (.eff 8 [2] (.eff 10 [] .fin .stop) .stop) .stop) .stop)) (.eff 9 [2, 7] (.eff 5 [2, 7] (.eff 6 [7] (.eff 8 [2] (.eff 10 [] .fin .stop) .stop) .stop) .stop) .stop)))))))) rfl (by kernel_rfl) ?_
 repeat' first | refine wk ?_ | refine wc ?_ ?_ <;> intro h <;> try omega | fail
 refine d_eff rfl ?_ ?_
 ·refine l_ent ((Ent.pick (Pre := [stC K pg sl (fu + 256 * K.n), own a2 2 c2 88 4 (pcs [e, cutP x (n - sumN o)]), pk [A, own (some ⟨qb, 0, none⟩) 1 1 88 4 (pcs [cutP x (n - sumN o)])], spC s us tk, cellsAt r11 29 [.int .i64 0], cellsAt r10 3 [.int .i64 0], trC T K.cc s, cellsAt r23 167 [.int .i64 0, .int .i64 0, .int .i64 0, .int .i64 0, .int .i64 (-1)], cellsAt r26 167 [.int .i64 0, .int .i64 0, .int .i64 0, .int .i64 0, .int .i64 (-1)]]) xpkd).trans (ent_stless (fu + 256 * K.n) (fu + 256 * K.n) (by omega) _)) ?_
  refine c_call (s_tleaves (own a2 2 c2 88 4 (pcs [e, cutP x (n - sumN o)])) T s tk us K hK pg sl fu a2 2 c2 [e, cutP x (n - sumN o)] (Rds.own 0 rfl) rfl hc2 hmid hu ht) rfl xpkd rfl rfl ?_
  rintro v S ⟨no', n1, n2, n3, rfl, rfl⟩
  refine l_tell rfl ?_
  repeat' first | refine wk ?_ | refine wc ?_ ?_ <;> intro h <;> try omega | fail
  refine d_eff rfl ?_ ?_
  ·refine c_call (s_tput1 T no' 2 [e, cutP x (n - sumN o)]) rfl .nil rfl rfl ?_
   rintro v S ⟨rfl, rfl⟩
   refine l_tell rfl ?_
   repeat' first | refine wk ?_ | refine wc ?_ ?_ <;> intro h <;> try omega | fail
   refine d_eff rfl ?_ ?_
   ·refine c_call (s_tput2 T no' 2 [e, cutP x (n - sumN o)]) rfl .nil rfl rfl ?_
    rintro v S ⟨rfl, rfl⟩
    refine l_tell rfl ?_
    repeat' first | refine wk ?_ | refine wc ?_ ?_ <;> intro h <;> try omega | fail
    refine o_alloc rfl rfl fun r27 => ?_
    repeat' first | refine wk ?_ | refine wc ?_ ?_ <;> intro h <;> try omega | fail
    refine bd_ret (out_recov (d_89 _ _) rfl rfl ?_)
    refine out_cons (d_88 T r11 _) rfl rfl xpkd (fun S' hS => ?_)
    subst hS
    exact out_nil [trC T K.cc s, stC K (updP pg no' (some (lfB no' [e, cutP x (n - sumN o)]))) sl fu, spC s (no' :: us) (tk + 1), A] (.cons (.cell fun N D => c_load (b := r10) rfl xfnd rfl rfl rfl) (.cons (.cell fun N D => c_load (b := r11) rfl xfnd rfl rfl rfl) .nil)) ((Ent.pick (Pre := [pk [A, own (some ⟨qb, 0, none⟩) 1 1 88 4 (pcs [cutP x (n - sumN o)])], trC T K.cc s, stC K (updP pg no' (some (lfB no' [e, cutP x (n - sumN o)]))) sl fu, spC s (no' :: us) (tk + 1)]) xpkd).trans ((ent_unpk [A, own (some ⟨qb, 0, none⟩) 1 1 88 4 (pcs [cutP x (n - sumN o)])] _).trans (Ent.pick xpkd))) ⟨no', n1, n2, n3, rfl, rfl⟩
   ·refine d_eff rfl ?_ d_stop
    refine o_alloc rfl rfl fun r27 => ?_
    repeat' first | refine wk ?_ | refine wc ?_ ?_ <;> intro h <;> try omega | fail
    refine c_call (s_tput2 T no' 2 [e, cutP x (n - sumN o)]) rfl .nil rfl rfl ?_
    rintro v S ⟨rfl, rfl⟩
    refine l_tell rfl ?_
    repeat' first | refine wk ?_ | refine wc ?_ ?_ <;> intro h <;> try omega | fail
    refine bd_ret (out_recov (d_89 _ _) rfl rfl ?_)
    refine out_cons (d_88 T r11 _) rfl rfl xpkd (fun S' hS => ?_)
    subst hS
    exact out_nil [trC T K.cc s, stC K (updP pg no' (some (lfB no' [e, cutP x (n - sumN o)]))) sl fu, spC s (no' :: us) (tk + 1), A] (.cons (.cell fun N D => c_load (b := r10) rfl xfnd rfl rfl rfl) (.cons (.cell fun N D => c_load (b := r11) rfl xfnd rfl rfl rfl) .nil)) ((Ent.pick (Pre := [pk [A, own (some ⟨qb, 0, none⟩) 1 1 88 4 (pcs [cutP x (n - sumN o)])], trC T K.cc s, stC K (updP pg no' (some (lfB no' [e, cutP x (n - sumN o)]))) sl fu, spC s (no' :: us) (tk + 1)]) xpkd).trans ((ent_unpk [A, own (some ⟨qb, 0, none⟩) 1 1 88 4 (pcs [cutP x (n - sumN o)])] _).trans (Ent.pick xpkd))) ⟨no', n1, n2, n3, rfl, rfl⟩
  ·refine d_eff rfl ?_ d_stop
   refine o_alloc rfl rfl fun r27 => ?_
   repeat' first | refine wk ?_ | refine wc ?_ ?_ <;> intro h <;> try omega | fail
   refine c_call (s_tput1 T no' 2 [e, cutP x (n - sumN o)]) rfl .nil rfl rfl ?_
   rintro v S ⟨rfl, rfl⟩
   refine l_tell rfl ?_
   repeat' first | refine wk ?_ | refine wc ?_ ?_ <;> intro h <;> try omega | fail
   refine c_call (s_tput2 T no' 2 [e, cutP x (n - sumN o)]) rfl .nil rfl rfl ?_
   rintro v S ⟨rfl, rfl⟩
   refine l_tell rfl ?_
   repeat' first | refine wk ?_ | refine wc ?_ ?_ <;> intro h <;> try omega | fail
   refine bd_ret (out_recov (d_89 _ _) rfl rfl ?_)
   refine out_cons (d_88 T r11 _) rfl rfl xpkd (fun S' hS => ?_)
   subst hS
   exact out_nil [trC T K.cc s, stC K (updP pg no' (some (lfB no' [e, cutP x (n - sumN o)]))) sl fu, spC s (no' :: us) (tk + 1), A] (.cons (.cell fun N D => c_load (b := r10) rfl xfnd rfl rfl rfl) (.cons (.cell fun N D => c_load (b := r11) rfl xfnd rfl rfl rfl) .nil)) ((Ent.pick (Pre := [pk [A, own (some ⟨qb, 0, none⟩) 1 1 88 4 (pcs [cutP x (n - sumN o)])], trC T K.cc s, stC K (updP pg no' (some (lfB no' [e, cutP x (n - sumN o)]))) sl fu, spC s (no' :: us) (tk + 1)]) xpkd).trans ((ent_unpk [A, own (some ⟨qb, 0, none⟩) 1 1 88 4 (pcs [cutP x (n - sumN o)])] _).trans (Ent.pick xpkd))) ⟨no', n1, n2, n3, rfl, rfl⟩
 ·refine d_eff rfl ?_ d_stop
  refine o_alloc rfl rfl fun r27 => ?_
  repeat' first | refine wk ?_ | refine wc ?_ ?_ <;> intro h <;> try omega | fail
  refine l_ent ((Ent.pick (Pre := [stC K pg sl (fu + 256 * K.n), own a2 2 c2 88 4 (pcs [e, cutP x (n - sumN o)]), pk [A, own (some ⟨qb, 0, none⟩) 1 1 88 4 (pcs [cutP x (n - sumN o)])], spC s us tk, cellsAt r11 29 [.int .i64 0], cellsAt r10 3 [.int .i64 0], trC T K.cc s, cellsAt r23 167 [.int .i64 0, .int .i64 0, .int .i64 0, .int .i64 0, .int .i64 (-1)], cellsAt r26 167 [.int .i64 0, .int .i64 0, .int .i64 0, .int .i64 0, .int .i64 (-1)], cellsAt r27 167 [.int .i64 0, .int .i64 0, .int .i64 0, .int .i64 0, .int .i64 0]]) xpkd).trans (ent_stless (fu + 256 * K.n) (fu + 256 * K.n) (by omega) _)) ?_
  refine c_call (s_tleaves (own a2 2 c2 88 4 (pcs [e, cutP x (n - sumN o)])) T s tk us K hK pg sl fu a2 2 c2 [e, cutP x (n - sumN o)] (Rds.own 0 rfl) rfl hc2 hmid hu ht) rfl xpkd rfl rfl ?_
  rintro v S ⟨no', n1, n2, n3, rfl, rfl⟩
  refine l_tell rfl ?_
  repeat' first | refine wk ?_ | refine wc ?_ ?_ <;> intro h <;> try omega | fail
  refine c_call (s_tput1 T no' 2 [e, cutP x (n - sumN o)]) rfl .nil rfl rfl ?_
  rintro v S ⟨rfl, rfl⟩
  refine l_tell rfl ?_
  repeat' first | refine wk ?_ | refine wc ?_ ?_ <;> intro h <;> try omega | fail
  refine c_call (s_tput2 T no' 2 [e, cutP x (n - sumN o)]) rfl .nil rfl rfl ?_
  rintro v S ⟨rfl, rfl⟩
  refine l_tell rfl ?_
  repeat' first | refine wk ?_ | refine wc ?_ ?_ <;> intro h <;> try omega | fail
  refine bd_ret (out_recov (d_89 _ _) rfl rfl ?_)
  refine out_cons (d_88 T r11 _) rfl rfl xpkd (fun S' hS => ?_)
  subst hS
  exact out_nil [trC T K.cc s, stC K (updP pg no' (some (lfB no' [e, cutP x (n - sumN o)]))) sl fu, spC s (no' :: us) (tk + 1), A] (.cons (.cell fun N D => c_load (b := r10) rfl xfnd rfl rfl rfl) (.cons (.cell fun N D => c_load (b := r11) rfl xfnd rfl rfl rfl) .nil)) ((Ent.pick (Pre := [pk [A, own (some ⟨qb, 0, none⟩) 1 1 88 4 (pcs [cutP x (n - sumN o)])], trC T K.cc s, stC K (updP pg no' (some (lfB no' [e, cutP x (n - sumN o)]))) sl fu, spC s (no' :: us) (tk + 1)]) xpkd).trans ((ent_unpk [A, own (some ⟨qb, 0, none⟩) 1 1 88 4 (pcs [cutP x (n - sumN o)])] _).trans (Ent.pick xpkd))) ⟨no', n1, n2, n3, rfl, rfl⟩
end Go.Ox
end
section
set_option maxRecDepth 100000
set_option maxHeartbeats 800000
namespace Go.Ox
open Go Go.Proofs
theorem s_tbuild (A : Asn) (T s tk : Nat) (us : List Nat) (K : SK) (hK : K.ok) (pg : Nat → Option (List Nat)) (sl fu : Nat) (a : Option Addr) (c : Nat) (e : Pc) (hA : PcRd A a 1 [e]) (hmid : LfOk [e]) (hu : us.length + 2 ≤ K.n) (ht : tk ≤ 1000000000) :
  Spec Tryz.prog 237 [.pointer (some ⟨T, 0, none⟩), .slice a 1 c] [trC T K.cc s, stC K pg sl (fu + 256 * K.n), spC s us tk, A]
   (fun v S => ∃ no', 1 ≤ no' ∧ no' ≤ us.length + 1 ∧ no' ∉ us ∧ v = .tuple #[.int .i64 (no' : Nat), .int .i64 0] ∧ S = [trC T K.cc s, stC K (updP pg no' (some (lfB no' [e]))) sl fu, spC s (no' :: us) (tk + 1), A]) := by
 refine spec_of_d Tryz.func237 rfl Tryz.results237 Tryz.ntmps237 rfl ?_
 repeat' first | refine wk ?_ | refine wc ?_ ?_ <;> intro h <;> try omega | fail
 refine o_alloc rfl rfl fun r4 => ?_
 refine o_alloc rfl rfl fun r5 => ?_
 repeat' first | refine wk ?_ | refine wc ?_ ?_ <;> intro h <;> try omega | fail
 refine c_call (s_tmay A a 1 c [e] hA rfl (by omega) hmid.2.2.1 hmid.2.2.2) rfl xpkd rfl rfl ?_
 rintro v S ⟨rfl, rfl⟩
 refine l_tell rfl ?_
 repeat' first | refine wk ?_ | refine wc ?_ ?_ <;> intro h <;> try omega | fail
 refine o_buildSlice rfl rfl rfl rfl rfl rfl rfl rfl rfl rfl rfl rfl fun pb => ?_
 repeat' first | refine wk ?_ | refine wc ?_ ?_ <;> intro h <;> try omega | fail
 refine c_call (s_tjoin A pb 1 [⟨a, 1, c, [e]⟩] (by
  intro q hq
  rw [List.mem_singleton.1 hq]
  exact ⟨hA, rfl⟩) trivial (by
  intro p hp
  have hp' : p ∈ [e] := hp
  have := (hmid.2.2.1 p hp').2.1
  omega) (by show 1 ≤ 1000; omega) (by show 1 ≤ 1000; omega)) rfl xpkd rfl rfl ?_
 rintro v S ⟨a2, c2, rfl, rfl⟩
 rw [show (flatJ [⟨a, 1, c, [e]⟩]).length = 1 from rfl]
 refine l_same [own a2 1 c2 88 4 (pcs [e]), A, cellsAt r5 29 [.int .i64 0], cellsAt r4 3 [.int .i64 0], trC T K.cc s, stC K pg sl (fu + 256 * K.n), spC s us tk] rfl ?_
 refine l_fact (p := 1 ≤ c2) (fun h hs => by obtain ⟨_, _, _, _, _, ⟨_, _, q3, _⟩, _⟩ := hs; exact q3) fun hc2 => ?_
 repeat' first | refine wk ?_ | refine wc ?_ ?_ <;> intro h <;> try omega | fail
 refine c_call (s_spMark s tk us) rfl xpkd rfl rfl ?_
 rintro v S ⟨tn, rfl, rfl⟩
 refine l_tell rfl ?_
 refine l_defer rfl rfl ?_
 repeat' first | refine wk ?_ | refine wc ?_ ?_ <;> intro h <;> try omega | fail
 refine l_defer rfl rfl ?_
 repeat' first | refine wk ?_ | refine wc ?_ ?_ <;> intro h <;> try omega | fail
 refine c_call (s_tleaves (own a2 1 c2 88 4 (pcs [e])) T s tk us K hK pg sl fu a2 1 c2 [e] (Rds.own 0 rfl) rfl hc2 hmid hu ht) rfl xpkd rfl rfl ?_
 rintro v S ⟨no', n1, n2, n3, rfl, rfl⟩
 refine l_tell rfl ?_
 repeat' first | refine wk ?_ | refine wc ?_ ?_ <;> intro h <;> try omega | fail
 refine bd_ret (out_recov (d_327 _ _) rfl rfl ?_)
 refine out_cons (d_88 T r5 _) rfl rfl xpkd (fun S' hS => ?_)
 subst hS
 exact out_nil [trC T K.cc s, stC K (updP pg no' (some (lfB no' [e]))) sl fu, spC s (no' :: us) (tk + 1), A] (.cons (.cell fun N D => c_load (b := r4) rfl xfnd rfl rfl rfl) (.cons (.cell fun N D => c_load (b := r5) rfl xfnd rfl rfl rfl) .nil)) (Ent.pick xpkd) ⟨no', n1, n2, n3, rfl, rfl⟩
theorem s_tleaves0 (T : Nat) (a : Option Addr) (c : Nat) : Spec Tryz.prog 98 [.pointer (some ⟨T, 0, none⟩), .slice a 0 c] [] (fun v S => v = noneV ∧ S = []) := by
 have hspread : Spec Tryz.prog 152 [.pointer (some ⟨T, 0, none⟩), nodeV a 0 c] [] (fun v S => v = .slice none 0 0 ∧ S = []) := by
  refine spec_of Tryz.func152 rfl Tryz.results152 Tryz.ntmps152 rfl ?_
  show Trip _ _ _ _ (numF 0 [.pointer (some ⟨T, 0, none⟩), .agg #[.bool true, .slice a 0 c, .slice none 0 0]]) _ _
  repeat' first | refine wb fun _ => ?_ | refine wk ?_ | refine wc ?_ ?_ <;> intro h <;> try omega | fail
  refine c_call (s_tmany a 0 c (by omega)) rfl .nil rfl rfl ?_
  rintro v S ⟨rfl, rfl⟩
  refine l_tell rfl ?_
  repeat' first | refine wk ?_ | refine wc ?_ ?_ <;> intro h <;> try omega | fail
  refine t_loop0 ?_
  repeat' first | refine wk ?_ | refine wc ?_ ?_ <;> intro h <;> try omega | fail
  exact b_ret [] rfl (fun _ _ => trivial) ⟨rfl, rfl⟩
 have hgrown : Spec Tryz.prog 151 [.pointer (some ⟨T, 0, none⟩), .slice none 0 0, .int .i64 0] [] (fun v S => v = noneV ∧ S = []) := by
  refine spec_of_d Tryz.func151 rfl Tryz.results151 Tryz.ntmps151 rfl ?_
  repeat' first | refine wk ?_ | refine wc ?_ ?_ <;> intro h <;> try omega | fail
  refine o_alloc rfl rfl fun rb2 => ?_
  repeat' first | refine wk ?_ | refine wc ?_ ?_ <;> intro h <;> try omega | fail
  refine t_loop0 ?_
  repeat' first | refine wk ?_ | refine wc ?_ ?_ <;> intro h <;> try omega | fail
  refine c_call s_tnone rfl .nil rfl rfl ?_
  rintro v S ⟨rfl, rfl⟩
  refine l_tell rfl ?_
  repeat' first | refine wk ?_ | refine wc ?_ ?_ <;> intro h <;> try omega | fail
  exact bd_ret (out_nil [] (.cons (.cell fun N D => c_loadA (b := rb2) rfl xfnd rfl rfl rfl) .nil) (fun _ _ => trivial) ⟨rfl, rfl⟩)
 refine spec_of_d Tryz.func98 rfl Tryz.results98 Tryz.ntmps98 rfl ?_
 repeat' first | refine wk ?_ | refine wc ?_ ?_ <;> intro h <;> try omega | fail
 refine o_alloc rfl rfl fun rb => ?_
 repeat' first | refine wk ?_ | refine wc ?_ ?_ <;> intro h <;> try omega | fail
 refine c_call hspread rfl .nil rfl rfl ?_
 rintro v S ⟨rfl, rfl⟩
 refine l_tell rfl ?_
 repeat' first | refine wk ?_ | refine wc ?_ ?_ <;> intro h <;> try omega | fail
 refine c_call hgrown rfl .nil rfl rfl ?_
 rintro v S ⟨rfl, rfl⟩
 refine l_tell rfl ?_
 repeat' first | refine wk ?_ | refine wc ?_ ?_ <;> intro h <;> try omega | fail
 exact bd_ret (out_nil [] (.cons (.cell fun N D => c_loadA (b := rb) rfl xfnd rfl rfl rfl) .nil) (fun _ _ => trivial) ⟨rfl, rfl⟩)
theorem s_tbuild0 (T cc s tk : Nat) (us : List Nat) :
  Spec Tryz.prog 237 [.pointer (some ⟨T, 0, none⟩), .slice none 0 0] [trC T cc s, spC s us tk]
   (fun v S => v = .tuple #[.int .i64 0, .int .i64 0] ∧ S = [trC T cc s, spC s us tk]) := by
 refine spec_of_d Tryz.func237 rfl Tryz.results237 Tryz.ntmps237 rfl ?_
 repeat' first | refine wk ?_ | refine wc ?_ ?_ <;> intro h <;> try omega | fail
 refine o_alloc rfl rfl fun r4 => ?_
 refine o_alloc rfl rfl fun r5 => ?_
 refine l_ent (ent_nil 88 4 _) ?_
 repeat' first | refine wk ?_ | refine wc ?_ ?_ <;> intro h <;> try omega | fail
 refine c_call (s_tmay (own none 0 0 88 4 []) none 0 0 [] (Rds.own 0 rfl) rfl (by omega) (fun p hp => by cases hp) (by decide)) rfl xpkd rfl rfl ?_
 rintro v S ⟨rfl, rfl⟩
 refine l_tell rfl ?_
 repeat' first | refine wk ?_ | refine wc ?_ ?_ <;> intro h <;> try omega | fail
 refine o_buildSlice rfl rfl rfl rfl rfl rfl rfl rfl rfl rfl rfl rfl fun pb => ?_
 repeat' first | refine wk ?_ | refine wc ?_ ?_ <;> intro h <;> try omega | fail
 refine c_call (s_tjoin (own none 0 0 88 4 []) pb 1 [⟨none, 0, 0, []⟩] (by
  intro q hq
  rw [List.mem_singleton.1 hq]
  exact ⟨Rds.own 0 rfl, rfl⟩) trivial (by
  intro p hp
  have hp' : p ∈ [] := hp
  cases hp') (by show 0 ≤ 1000; omega) (by show 1 ≤ 1000; omega)) rfl xpkd rfl rfl ?_
 rintro v S ⟨a2, c2, rfl, rfl⟩
 rw [show (flatJ [⟨none, 0, 0, []⟩]).length = 0 from rfl]
 refine l_tell rfl ?_
 repeat' first | refine wk ?_ | refine wc ?_ ?_ <;> intro h <;> try omega | fail
 refine c_call (s_spMark s tk us) rfl xpkd rfl rfl ?_
 rintro v S ⟨tn, rfl, rfl⟩
 refine l_tell rfl ?_
 refine l_defer rfl rfl ?_
 repeat' first | refine wk ?_ | refine wc ?_ ?_ <;> intro h <;> try omega | fail
 refine l_defer rfl rfl ?_
 repeat' first | refine wk ?_ | refine wc ?_ ?_ <;> intro h <;> try omega | fail
 refine c_call (s_tleaves0 T a2 c2) rfl .nil rfl rfl ?_
 rintro v S ⟨rfl, rfl⟩
 refine l_tell rfl ?_
 repeat' first | refine wk ?_ | refine wc ?_ ?_ <;> intro h <;> try omega | fail
 refine bd_ret (out_recov (d_327 _ _) rfl rfl ?_)
 refine out_cons (d_88 T r5 _) rfl rfl xpkd (fun S' hS => ?_)
 subst hS
 exact out_nil [trC T cc s, spC s us tk] (.cons (.cell fun N D => c_load (b := r4) rfl xfnd rfl rfl rfl) (.cons (.cell fun N D => c_load (b := r5) rfl xfnd rfl rfl rfl) .nil)) (Ent.pick xpkd) ⟨rfl, rfl⟩
theorem s_tpages2 (no b6 b7 mb : Nat) (a : Option Addr) (n c : Nat) (hno : no < 1048576) :
  Spec Tryz.prog 301 [.int .i64 no, nodeV a n c, .pointer (some ⟨b6, 0, none⟩), .pointer (some ⟨b7, 0, none⟩)] [cellsAt b6 150 [.map (some mb)], amap mb kInt [], cellsAt b7 106 [.slice none 0 0]]
   (fun v S => ∃ (a' : Option Addr) (c' : Nat), v = .bool true ∧ S = [own a' 1 c' 187 2 (rgV [((no : Int), (no : Int) + 1)]), cellsAt b6 150 [.map (some mb)], amap mb kInt (usM [no]), cellsAt b7 106 [.slice a' 1 c']]) := by
 refine spec_of Tryz.func301 rfl Tryz.results301 Tryz.ntmps301 rfl ?_
 show Trip _ _ _ _ (numF 0 [.int .i64 no, .agg #[.bool true, .slice a n c, .slice none 0 0], .pointer (some ⟨b6, 0, none⟩), .pointer (some ⟨b7, 0, none⟩)]) _ _
 refine t_ent (ent_nil 187 2 _) ?_
 repeat' first | refine wb fun _ => ?_ | refine wk ?_ | refine wc ?_ ?_ <;> intro h <;> try omega | refine l_qs (by exact c_lookup_no (ok := false) rfl rfl xfnd rfl rfl rfl rfl rfl rfl (fun p hp => by cases hp)) rfl ?_ | fail
 refine c_mapAdd rfl rfl rfl xhol rfl rfl rfl rfl rfl (fun p hp => by cases hp) ?_
 refine l_tell rfl ?_
 repeat' first | refine wk ?_ | refine wc ?_ ?_ <;> intro h <;> try omega | fail
 refine o_buildSlice rfl rfl rfl rfl rfl rfl rfl rfl rfl rfl rfl rfl fun pb => ?_
 repeat' first | refine wk ?_ | refine wc ?_ ?_ <;> intro h <;> try omega | fail
 refine c_append rfl rfl xhol (own_rds (a := some ⟨pb, 0, none⟩) xfnd) rfl rfl rfl rfl rfl (by show (0 + 1) * 16 ≤ _; omega) (by omega) rfl fun a3 c3 => ?_
 repeat' first | refine wk ?_ | refine wc ?_ ?_ <;> intro h <;> try omega | fail
 exact b_ret [own a3 1 c3 187 2 (rgV [((no : Int), (no : Int) + 1)]), cellsAt b6 150 [.map (some mb)], amap mb kInt (usM [no]), cellsAt b7 106 [.slice a3 1 c3]] rfl (Ent.pick xpkd) ⟨a3, c3, rfl, rfl⟩
theorem s_twalkP (T s b6 b7 mb : Nat) (K : SK) (hK : K.ok) (pg : Nat → Option (List Nat)) (sl fu no : Nat) (ps : List Pc) (hp : pg no = some (lfB no ps)) (hps : LfOk ps) (hno : no < 1048576) :
  Spec Tryz.prog 233 [.pointer (some ⟨T, 0, none⟩), .int .i64 no, .int .i64 0, .func (.func 301) #[] #[.pointer (some ⟨b6, 0, none⟩), .pointer (some ⟨b7, 0, none⟩)]] [trC T K.cc s, stC K pg sl (fu + 256 * K.n), cellsAt b6 150 [.map (some mb)], amap mb kInt [], cellsAt b7 106 [.slice none 0 0]]
   (fun _ S => ∃ (a' : Option Addr) (c' : Nat), S = [own a' 1 c' 187 2 (rgV [((no : Int), (no : Int) + 1)]), cellsAt b6 150 [.map (some mb)], amap mb kInt (usM [no]), cellsAt b7 106 [.slice a' 1 c'], trC T K.cc s, stC K pg sl fu]) := by
 refine spec_of Tryz.func233 rfl Tryz.results233 Tryz.ntmps233 rfl ?_
 repeat' first | refine wk ?_ | refine wc ?_ ?_ <;> intro h <;> try omega | fail
 refine c_call (s_tread T s K hK pg sl fu no ps hp hps hno) rfl xpkd rfl rfl ?_
 rintro v S ⟨a, c, rfl, rfl⟩
 refine l_tell rfl ?_
 repeat' first | refine wk ?_ | refine wc ?_ ?_ <;> intro h <;> try omega | fail
 refine o_alloc rfl rfl fun nb => ?_
 repeat' first | refine wk ?_ | refine wc ?_ ?_ <;> intro h <;> try omega | fail
 refine c_callV (us := []) (vs := [.int .i64 no, nodeV a ps.length c]) (cs := [.pointer (some ⟨b6, 0, none⟩), .pointer (some ⟨b7, 0, none⟩)]) rfl (s_tpages2 no b6 b7 mb a ps.length c hno) rfl xpkd rfl rfl ?_
 rintro v S ⟨a', c', rfl, rfl⟩
 refine l_tell rfl ?_
 repeat' first | refine wk ?_ | refine wc ?_ ?_ <;> intro h <;> try omega | fail
 refine t_loop0 ?_
 repeat' first | refine wk ?_ | refine wc ?_ ?_ <;> intro h <;> try omega | fail
 refine pt_exit (pt_exit (pb_exit ?_))
 exact b_end [own a' 1 c' 187 2 (rgV [((no : Int), (no : Int) + 1)]), cellsAt b6 150 [.map (some mb)], amap mb kInt (usM [no]), cellsAt b7 106 [.slice a' 1 c'], trC T K.cc s, stC K pg sl fu] rfl (Ent.pick xpkd) ⟨a', c', rfl⟩
end Go.Ox
end
