/- WholeKept, part 26. No condition. -/
import Derived.Test.YtonpakokjgloaaaGreatOx25
set_option linter.all false
section
set_option maxRecDepth 100000
set_option maxHeartbeats 1600000
namespace Go.Ox
open Go Go.Proofs
def cutP (p : Pc) (k : Nat) : Pc := if k = 0 then p else ⟨p.s, p.a + k, p.n - k, if p.l = 0 then 0 else -1⟩
theorem s_tpart (p : Pc) (k : Nat) (hk : k < p.n) (hp : p.ok) : Spec Tryz.prog 92 [p.v, .int .i64 (k : Int), .int .i64 (p.n : Int)] [] (fun v S => ∃ b, v = .slice (some ⟨b, 0, none⟩) 1 1 ∧ S = [own (some ⟨b, 0, none⟩) 1 1 88 4 (pcs [cutP p k])]) := by
 obtain ⟨h1, h2, h3, h4, h5, h6, h7⟩ := hp
 refine spec_of Tryz.func92 rfl Tryz.results92 Tryz.ntmps92 rfl ?_
 show Trip _ _ _ _ (numF 0 [.agg #[.int .i64 (p.s : Int), .int .i64 (p.a : Int), .int .i64 (p.n : Int), .int .i64 p.l], .int .i64 (k : Int), .int .i64 (p.n : Int)]) _ _
 by_cases h0 : k = 0
 ·subst h0
  repeat' first | refine wb fun _ => ?_ | refine wk ?_ | refine wc ?_ ?_ <;> intro h <;> try omega | fail
  refine o_buildSlice rfl rfl rfl rfl rfl rfl rfl rfl rfl rfl rfl rfl fun pb => ?_
  repeat' first | refine wk ?_ | refine wc ?_ ?_ <;> intro h <;> try omega | fail
  exact b_ret [own (some ⟨pb, 0, none⟩) 1 1 88 4 (pcs [cutP p 0])] rfl (Ent.pick xpkd) ⟨pb, rfl, rfl⟩
 ·have e1 : ((p.n : Int) - (k : Int)) = ((p.n - k : Nat) : Int) := by omega
  by_cases hl : p.l = 0
  ·have ec : cutP p k = ⟨p.s, p.a + k, p.n - k, 0⟩ := by unfold cutP; rw [if_neg h0, if_pos hl]
   rw [ec]
   repeat' first | refine wb fun _ => ?_ | refine wk ?_ | refine wc ?_ ?_ <;> intro h <;> try omega | fail
   rw [e1, hl]
   refine o_buildSlice rfl rfl rfl rfl rfl rfl rfl rfl rfl rfl rfl rfl fun pb => ?_
   repeat' first | refine wk ?_ | refine wc ?_ ?_ <;> intro h <;> try omega | fail
   exact b_ret [own (some ⟨pb, 0, none⟩) 1 1 88 4 (pcs [⟨p.s, p.a + k, p.n - k, 0⟩])] rfl (Ent.pick xpkd) ⟨pb, rfl, rfl⟩
  ·have ec : cutP p k = ⟨p.s, p.a + k, p.n - k, -1⟩ := by unfold cutP; rw [if_neg h0, if_neg hl]
   rw [ec]
   repeat' first | refine wb fun _ => ?_ | refine wk ?_ | refine wc ?_ ?_ <;> intro h <;> try omega | fail
   rw [e1]
   refine o_buildSlice rfl rfl rfl rfl rfl rfl rfl rfl rfl rfl rfl rfl fun pb => ?_
   repeat' first | refine wk ?_ | refine wc ?_ ?_ <;> intro h <;> try omega | fail
   exact b_ret [own (some ⟨pb, 0, none⟩) 1 1 88 4 (pcs [⟨p.s, p.a + k, p.n - k, -1⟩])] rfl (Ent.pick xpkd) ⟨pb, rfl, rfl⟩
theorem s_tseek (T s : Nat) (K : SK) (hK : K.ok) (pg : Nat → Option (List Nat)) (sl fu no at_ i : Nat) (ps : List Pc) (hp : pg no = some (lfB no ps)) (hps : LfOk ps) (hno : no < 1048576) (hi : i < ps.length) (h1 : sumN (ps.take i) ≤ at_) (h2 : at_ < sumN (ps.take (i + 1))) :
  Spec Tryz.prog 91 [.pointer (some ⟨T, 0, none⟩), .int .i64 no, .int .i64 at_] [trC T K.cc s, stC K pg sl (fu + 256 * K.n)] (fun v S => v = .tuple #[(ps[i]'hi).v, .int .i64 (sumN (ps.take i))] ∧ S = [trC T K.cc s, stC K pg sl fu]) := by
 refine spec_of_d Tryz.func91 rfl Tryz.results91 Tryz.ntmps91 rfl ?_
 repeat' first | refine wk ?_ | refine wc ?_ ?_ <;> intro h <;> try omega | fail
 refine o_alloc rfl rfl fun rb => ?_
 repeat' first | refine t_scope ?_ | refine t_label ?_ | refine pn_ret ?_ | refine wk ?_ | refine wc ?_ ?_ <;> intro h <;> try omega | fail
 refine c_call (s_tread T s K hK pg sl fu no ps hp hps hno) rfl xpkd rfl rfl ?_
 rintro v S ⟨a, c, rfl, rfl⟩
 refine l_tell rfl ?_
 refine l_fact (own_some hps.1) ?_
 rintro ⟨b, rfl, hc⟩
 repeat' first | refine wk ?_ | refine wc ?_ ?_ <;> intro h <;> try omega | fail
 refine o_alloc rfl rfl fun nb => ?_
 repeat' first | refine t_scope ?_ | refine t_label ?_ | refine pn_ret ?_ | refine wk ?_ | refine wc ?_ ?_ <;> intro h <;> try omega | fail
 refine t_loop0 ?_
 repeat' first | refine wk ?_ | refine wc ?_ ?_ <;> intro h <;> try omega | fail
 refine t_loop (fun mm env S => ∃ j, j ≤ i ∧ mm = i - j ∧ env = [(2, .int .i64 (at_ : Int)), (6, .pointer (some ⟨rb, 0, none⟩)), (8, .int .i64 ((sumN (ps.take j) : Nat) : Int)), (20, .slice (some ⟨b, 0, none⟩) ps.length c), (21, .int .i64 (ps.length : Int)), (22, .int .i64 (j : Int))] ∧ S = [own (some ⟨b, 0, none⟩) ps.length c 88 4 (pcs ps), trC T K.cc s, stC K pg sl fu, cellsAt rb 88 [.int .i64 0, .int .i64 0, .int .i64 0, .int .i64 0]]) i _ _ ⟨0, by omega, by omega, rfl, rfl⟩ xlss (Ent.pick xpkd) ?_
 rintro mm env S ⟨j, hj, rfl, rfl, rfl⟩
 have hjl : j < ps.length := by omega
 have hsuc := sumN_take_succ ps j hjl
 have hle := sumN_take_le ps (j + 1)
 obtain ⟨_, _, hall, hsum⟩ := hps
 by_cases hji : j < i
 ·have hmono : sumN (ps.take (j + 1)) ≤ sumN (ps.take i) := by
   have := sumN_take_le (ps.take i) (j + 1)
   rwa [List.take_take, Nat.min_eq_left (by omega)] at this
  repeat' first | refine wb fun _ => ?_ | refine wk ?_ | refine wc ?_ ?_ <;> intro h <;> try omega | refine l_qs (by exact q_loadRdA (j := j) (own_rds (a := some ⟨b, 0, none⟩) (n := ps.length) (c := c) (els := pcs ps) xfnd) rfl rfl rfl rfl rfl (pcs_get hjl)) rfl ?_ | fail
  exact ⟨rfl, i - (j + 1), _, _, by omega, ⟨j + 1, by omega, rfl, rfl, rfl⟩, (by rw [hsuc]; exact xlss), Ent.pick xpkd⟩
 ·have e : j = i := by omega
  subst e
  repeat' first | refine wb fun _ => ?_ | refine t_scope ?_ | refine t_label ?_ | refine pn_ret ?_ | refine wk ?_ | refine wc ?_ ?_ <;> intro h <;> try omega | refine l_qs (by exact q_loadRdA (j := j) (own_rds (a := some ⟨b, 0, none⟩) (n := ps.length) (c := c) (els := pcs ps) xfnd) rfl rfl rfl rfl rfl (pcs_get hjl)) rfl ?_ | fail
  exact bd_ret (out_nil [trC T K.cc s, stC K pg sl fu] (.cons (.cell fun N D => c_loadA (b := rb) rfl xfnd rfl rfl rfl) (.cons (.tmp rfl) .nil)) (Ent.pick xpkd) ⟨rfl, rfl⟩)
theorem s_trooted (T s : Nat) (K : SK) (hK : K.ok) (pg : Nat → Option (List Nat)) (sl fu no : Nat) (ps : List Pc) (hp : pg no = some (lfB no ps)) (hps : LfOk ps) (h0 : 1 ≤ no) (hno : no < 1048576) :
  Spec Tryz.prog 94 [.pointer (some ⟨T, 0, none⟩), .int .i64 no] [trC T K.cc s, stC K pg sl (fu + 256 * K.n)] (fun v S => v = tallV no ps.length ps ∧ S = [trC T K.cc s, stC K pg sl fu]) := by
 refine spec_of_d Tryz.func94 rfl Tryz.results94 Tryz.ntmps94 rfl ?_
 repeat' first | refine wk ?_ | refine wc ?_ ?_ <;> intro h <;> try omega | fail
 refine o_alloc rfl rfl fun rb => ?_
 repeat' first | refine wk ?_ | refine wc ?_ ?_ <;> intro h <;> try omega | fail
 refine c_call (s_tread T s K hK pg sl fu no ps hp hps hno) rfl xpkd rfl rfl ?_
 rintro v S ⟨a, c, rfl, rfl⟩
 refine l_tell rfl ?_
 repeat' first | refine wk ?_ | refine wc ?_ ?_ <;> intro h <;> try omega | fail
 refine o_alloc rfl rfl fun nb => ?_
 repeat' first | refine wk ?_ | refine wc ?_ ?_ <;> intro h <;> try omega | fail
 refine c_call (s_nodeSum (own a ps.length c 88 4 (pcs ps)) a ps.length c ps (Rds.own 0 rfl) rfl hps.1 hps.2.1 hps.2.2.1 hps.2.2.2) rfl xpkd rfl rfl ?_
 rintro v S ⟨rfl, rfl⟩
 refine l_tell rfl ?_
 repeat' first | refine wk ?_ | refine wc ?_ ?_ <;> intro h <;> try omega | fail
 refine o_alloc rfl rfl fun xb => ?_
 repeat' first | refine wk ?_ | refine wc ?_ ?_ <;> intro h <;> try omega | fail
 refine t_loop0 ?_
 repeat' first | refine wk ?_ | refine wc ?_ ?_ <;> intro h <;> try omega | fail
 exact bd_ret (out_nil [trC T K.cc s, stC K pg sl fu] (.cons (.cell fun N D => c_loadA (b := rb) rfl xfnd rfl rfl rfl) .nil) (Ent.pick xpkd) ⟨rfl, rfl⟩)
theorem s_trooted0 (T : Nat) : Spec Tryz.prog 94 [.pointer (some ⟨T, 0, none⟩), .int .i64 0] [] (fun v S => v = noneV ∧ S = []) := by
 refine spec_of_d Tryz.func94 rfl Tryz.results94 Tryz.ntmps94 rfl ?_
 repeat' first | refine wk ?_ | refine wc ?_ ?_ <;> intro h <;> try omega | fail
 refine o_alloc rfl rfl fun rb => ?_
 repeat' first | refine wk ?_ | refine wc ?_ ?_ <;> intro h <;> try omega | fail
 refine c_call s_tnone rfl .nil rfl rfl ?_
 rintro v S ⟨rfl, rfl⟩
 refine l_tell rfl ?_
 repeat' first | refine wk ?_ | refine wc ?_ ?_ <;> intro h <;> try omega | fail
 exact bd_ret (out_nil [] (.cons (.cell fun N D => c_loadA (b := rb) rfl xfnd rfl rfl rfl) .nil) (fun _ _ => trivial) ⟨rfl, rfl⟩)
theorem s_trank0 (T : Nat) (b l n h : Int) (no : Int) : Spec Tryz.prog 95 [.pointer (some ⟨T, 0, none⟩), .agg #[.int .i64 no, .int .i64 b, .int .i64 l, .int .i64 n, .int .i64 h], .int .i64 0] [] (fun v S => v = .int .i64 0 ∧ S = []) := by
 refine spec_of Tryz.func95 rfl Tryz.results95 Tryz.ntmps95 rfl ?_
 repeat' first | refine wb fun _ => ?_ | refine wk ?_ | refine wc ?_ ?_ <;> intro h <;> try omega | fail
 exact b_ret [] rfl (fun _ _ => trivial) ⟨rfl, rfl⟩
theorem s_trankAll (T no n : Nat) (ps : List Pc) (h1 : 1 ≤ sumN ps) : Spec Tryz.prog 95 [.pointer (some ⟨T, 0, none⟩), tallV no n ps, .int .i64 (sumN ps)] [] (fun v S => v = .int .i64 (n : Int) ∧ S = []) := by
 refine spec_of Tryz.func95 rfl Tryz.results95 Tryz.ntmps95 rfl ?_
 show Trip _ _ _ _ (numF 0 [.pointer (some ⟨T, 0, none⟩), .agg #[.int .i64 (no : Int), .int .i64 (sumN ps), .int .i64 (linesOf ps), .int .i64 (n : Int), .int .i64 0], .int .i64 (sumN ps)]) _ _
 repeat' first | refine wb fun _ => ?_ | refine wk ?_ | refine wc ?_ ?_ <;> intro h <;> try omega | fail
 exact b_ret [] rfl (fun _ _ => trivial) ⟨rfl, rfl⟩
theorem s_tparted0 (T : Nat) (no b l n h : Int) : Spec Tryz.prog 96 [.pointer (some ⟨T, 0, none⟩), .agg #[.int .i64 no, .int .i64 b, .int .i64 l, .int .i64 n, .int .i64 h], .int .i64 0] [] (fun v S => v = .tuple #[noneV, .agg #[.int .i64 no, .int .i64 b, .int .i64 l, .int .i64 n, .int .i64 h]] ∧ S = []) := by
 refine spec_of_d Tryz.func96 rfl Tryz.results96 Tryz.ntmps96 rfl ?_
 repeat' first | refine wk ?_ | refine wc ?_ ?_ <;> intro h <;> try omega | fail
 refine o_box rfl rfl rfl fun b4 => ?_
 refine o_alloc rfl rfl fun r6 => ?_
 refine o_alloc rfl rfl fun r7 => ?_
 repeat' first | refine wk ?_ | refine wc ?_ ?_ <;> intro h <;> try omega | fail
 refine t_draw (.eval 1 false (.eff 0 [1] (.eff 2 [1] (.eff 3 [] .fin .stop) .stop) .stop)) rfl (by kernel_rfl) ?_
 repeat' first | refine wk ?_ | refine wc ?_ ?_ <;> intro h <;> try omega | fail
 refine c_call s_tnone rfl .nil rfl rfl ?_
 rintro v S ⟨rfl, rfl⟩
 refine l_tell rfl ?_
 repeat' first | refine wk ?_ | refine wc ?_ ?_ <;> intro h <;> try omega | fail
 exact bd_ret (out_nil [] (.cons (.cell fun N D => c_loadA (b := r6) rfl xfnd rfl rfl rfl) (.cons (.cell fun N D => c_loadA (b := r7) rfl xfnd rfl rfl rfl) .nil)) (fun _ _ => trivial) ⟨rfl, rfl⟩)
theorem s_tpartedAll (T : Nat) (no b l n h at_ : Int) (h1 : 0 < at_) (h2 : b ≤ at_) : Spec Tryz.prog 96 [.pointer (some ⟨T, 0, none⟩), .agg #[.int .i64 no, .int .i64 b, .int .i64 l, .int .i64 n, .int .i64 h], .int .i64 at_] [] (fun v S => v = .tuple #[.agg #[.int .i64 no, .int .i64 b, .int .i64 l, .int .i64 n, .int .i64 h], noneV] ∧ S = []) := by
 refine spec_of_d Tryz.func96 rfl Tryz.results96 Tryz.ntmps96 rfl ?_
 repeat' first | refine wk ?_ | refine wc ?_ ?_ <;> intro h <;> try omega | fail
 refine o_box rfl rfl rfl fun b4 => ?_
 refine o_alloc rfl rfl fun r6 => ?_
 refine o_alloc rfl rfl fun r7 => ?_
 repeat' first | refine wk ?_ | refine wc ?_ ?_ <;> intro h <;> try omega | fail
 refine t_draw (.eval 0 false (.eff 1 [0] (.eff 2 [] (.eff 3 [] .fin .stop) .stop) .stop)) rfl (by kernel_rfl) ?_
 repeat' first | refine wk ?_ | refine wc ?_ ?_ <;> intro h <;> try omega | fail
 refine c_call s_tnone rfl .nil rfl rfl ?_
 rintro v S ⟨rfl, rfl⟩
 refine l_tell rfl ?_
 repeat' first | refine wk ?_ | refine wc ?_ ?_ <;> intro h <;> try omega | fail
 exact bd_ret (out_nil [] (.cons (.cell fun N D => c_loadA (b := r6) rfl xfnd rfl rfl rfl) (.cons (.cell fun N D => c_loadA (b := r7) rfl xfnd rfl rfl rfl) .nil)) (fun _ _ => trivial) ⟨rfl, rfl⟩)
end Go.Ox
end
section
set_option maxRecDepth 100000
set_option maxHeartbeats 800000
namespace Go.Ox
open Go Go.Proofs
theorem d_145 (x y : Value) : DSpec Tryz.prog 145 [x, y] [] (fun S => S = []) := dspec_recov fun w =>
 d_recov Tryz.func145 rfl rfl rfl Tryz.results145 (by rw [Tryz.ntmps145]; decide) (by rw [Tryz.ntmps145]; decide) (by rw [Tryz.ntmps145]; decide) (by rw [Tryz.ntmps145]; decide) (by rw [Tryz.ntmps145]; show 2 ≤ _; omega)
theorem d_89 (x y : Value) : DSpec Tryz.prog 89 [x, y] [] (fun S => S = []) := dspec_recov fun w =>
 d_recov Tryz.func89 rfl rfl rfl Tryz.results89 (by rw [Tryz.ntmps89]; decide) (by rw [Tryz.ntmps89]; decide) (by rw [Tryz.ntmps89]; decide) (by rw [Tryz.ntmps89]; decide) (by rw [Tryz.ntmps89]; show 2 ≤ _; omega)
theorem d_327 (x y : Value) : DSpec Tryz.prog 327 [x, y] [] (fun S => S = []) := dspec_recov fun w =>
 d_recov Tryz.func327 rfl rfl rfl Tryz.results327 (by rw [Tryz.ntmps327]; decide) (by rw [Tryz.ntmps327]; decide) (by rw [Tryz.ntmps327]; decide) (by rw [Tryz.ntmps327]; decide) (by rw [Tryz.ntmps327]; show 2 ≤ _; omega)
theorem d_300 (x y : Value) : DSpec Tryz.prog 300 [x, y] [] (fun S => S = []) := dspec_recov fun w =>
 d_recov Tryz.func300 rfl rfl rfl Tryz.results300 (by rw [Tryz.ntmps300]; decide) (by rw [Tryz.ntmps300]; decide) (by rw [Tryz.ntmps300]; decide) (by rw [Tryz.ntmps300]; decide) (by rw [Tryz.ntmps300]; show 2 ≤ _; omega)
theorem d_232 (x y : Value) : DSpec Tryz.prog 232 [x, y] [] (fun S => S = []) := dspec_recov fun w =>
 d_recov Tryz.func232 rfl rfl rfl Tryz.results232 (by rw [Tryz.ntmps232]; decide) (by rw [Tryz.ntmps232]; decide) (by rw [Tryz.ntmps232]; decide) (by rw [Tryz.ntmps232]; decide) (by rw [Tryz.ntmps232]; show 2 ≤ _; omega)
theorem d_197 (x y : Value) : DSpec Tryz.prog 197 [x, y] [] (fun S => S = []) := dspec_recov fun w =>
 d_recov Tryz.func197 rfl rfl rfl Tryz.results197 (by rw [Tryz.ntmps197]; decide) (by rw [Tryz.ntmps197]; decide) (by rw [Tryz.ntmps197]; decide) (by rw [Tryz.ntmps197]; decide) (by rw [Tryz.ntmps197]; show 2 ≤ _; omega)
theorem s_tsize (T s : Nat) (K : SK) (hK : K.ok) (pg : Nat → Option (List Nat)) (sl fu no : Nat) (ps : List Pc) (hp : pg no = some (lfB no ps)) (hps : LfOk ps) (h0 : 1 ≤ no) (hno : no < 1048576) :
  Spec Tryz.prog 86 [.pointer (some ⟨T, 0, none⟩), .int .i64 no] [trC T K.cc s, stC K pg sl (fu + 256 * K.n)] (fun v S => v = .tuple #[.int .i64 (sumN ps), .int .i64 0] ∧ S = [trC T K.cc s, stC K pg sl fu]) := by
 refine spec_of_d Tryz.func86 rfl Tryz.results86 Tryz.ntmps86 rfl ?_
 repeat' first | refine wk ?_ | refine wc ?_ ?_ <;> intro h <;> try omega | fail
 refine o_alloc rfl rfl fun r4 => ?_
 refine o_alloc rfl rfl fun r5 => ?_
 repeat' first | refine wk ?_ | refine wc ?_ ?_ <;> intro h <;> try omega | fail
 refine l_defer rfl rfl ?_
 repeat' first | refine wk ?_ | refine wc ?_ ?_ <;> intro h <;> try omega | fail
 refine c_call (s_tread T s K hK pg sl fu no ps hp hps hno) rfl xpkd rfl rfl ?_
 rintro v S ⟨a, c, rfl, rfl⟩
 refine l_tell rfl ?_
 repeat' first | refine wk ?_ | refine wc ?_ ?_ <;> intro h <;> try omega | fail
 refine c_call (s_nodeSum (own a ps.length c 88 4 (pcs ps)) a ps.length c ps (Rds.own 0 rfl) rfl hps.1 hps.2.1 hps.2.2.1 hps.2.2.2) rfl xpkd rfl rfl ?_
 rintro v S ⟨rfl, rfl⟩
 refine l_tell rfl ?_
 repeat' first | refine wk ?_ | refine wc ?_ ?_ <;> intro h <;> try omega | fail
 refine bd_ret (out_recov (d_145 _ _) rfl rfl ?_)
 exact out_nil [trC T K.cc s, stC K pg sl fu] (.cons (.cell fun N D => c_load (b := r4) rfl xfnd rfl rfl rfl) (.cons (.cell fun N D => c_load (b := r5) rfl xfnd rfl rfl rfl) .nil)) (Ent.pick xpkd) ⟨rfl, rfl⟩
theorem s_tsize0 (T : Nat) : Spec Tryz.prog 86 [.pointer (some ⟨T, 0, none⟩), .int .i64 0] [] (fun v S => v = .tuple #[.int .i64 0, .int .i64 0] ∧ S = []) := by
 refine spec_of_d Tryz.func86 rfl Tryz.results86 Tryz.ntmps86 rfl ?_
 repeat' first | refine wk ?_ | refine wc ?_ ?_ <;> intro h <;> try omega | fail
 refine o_alloc rfl rfl fun r4 => ?_
 refine o_alloc rfl rfl fun r5 => ?_
 repeat' first | refine wk ?_ | refine wc ?_ ?_ <;> intro h <;> try omega | fail
 refine l_defer rfl rfl ?_
 repeat' first | refine wk ?_ | refine wc ?_ ?_ <;> intro h <;> try omega | fail
 refine bd_ret (out_recov (d_145 _ _) rfl rfl ?_)
 exact out_nil [] (.cons (.cell fun N D => c_load (b := r4) rfl xfnd rfl rfl rfl) (.cons (.cell fun N D => c_load (b := r5) rfl xfnd rfl rfl rfl) .nil)) (fun _ _ => trivial) ⟨rfl, rfl⟩
theorem s_ttotal (A : Asn) (a : Option Addr) (n c : Nat) (ps : List Pc) (hA : PcRd A a n ps) (hl : ps.length = n) (hn : n ≤ 1000000) (hs : sumN ps ≤ 1048576) :
  Spec Tryz.prog 87 [.slice a n c] [A] (fun v S => v = .int .i64 (sumN ps) ∧ S = [A]) := by
 refine spec_of Tryz.func87 rfl Tryz.results87 Tryz.ntmps87 rfl ?_
 repeat' first | refine wk ?_ | refine wc ?_ ?_ <;> intro h <;> try omega | fail
 refine t_loop (fun mm env S => ∃ i, i ≤ n ∧ mm = n - i ∧ env = [(3, .int .i64 ((sumN (ps.take i) : Nat) : Int)), (6, .slice a n c), (7, .int .i64 (n : Int)), (8, .int .i64 (i : Int))] ∧ S = [A]) n _ _ ⟨0, by omega, by omega, rfl, rfl⟩ xlss (Ent.refl _) ?_
 rintro mm env S ⟨i, hi, rfl, rfl, rfl⟩
 by_cases hin : i < n
 ·have hin2 : i < ps.length := by omega
  have hsuc := sumN_take_succ ps i hin2
  have hle := sumN_take_le ps (i + 1)
  refine t_pure (hA.some' (by omega)) ?_
  rintro ⟨b, off, rfl⟩
  repeat' first | refine wb fun _ => ?_ | refine wk ?_ | refine wc ?_ ?_ <;> intro h <;> try omega | refine l_qs (by exact q_loadRdA (j := i) (hA.up xpkd) rfl rfl rfl rfl rfl (pcs_get hin2)) rfl ?_ | fail
  exact ⟨rfl, n - (i + 1), _, _, by omega, ⟨i + 1, by omega, rfl, rfl, rfl⟩, (by rw [hsuc]; exact xlss), Ent.pick xpkd⟩
 ·have e : i = n := by omega
  subst e
  rw [List.take_of_length_le (by omega)]
  repeat' first | refine wk ?_ | refine wc ?_ ?_ <;> intro h <;> try omega | fail
  exact b_ret [A] rfl (Ent.refl _) ⟨rfl, rfl⟩
theorem s_tmay (A : Asn) (a : Option Addr) (n c : Nat) (ps : List Pc) (hA : PcRd A a n ps) (hl : ps.length = n) (hn : n ≤ 1000000) (ho : ∀ p ∈ ps, p.ok) (hs : sumN ps ≤ 1048576) :
  Spec Tryz.prog 85 [.slice a n c] [A] (fun v S => v = .bool true ∧ S = [A]) := by
 refine spec_of Tryz.func85 rfl Tryz.results85 Tryz.ntmps85 rfl ?_
 repeat' first | refine wk ?_ | refine wc ?_ ?_ <;> intro h <;> try omega | fail
 refine t_loop (fun mm env S => ∃ i, i ≤ n ∧ mm = n - i ∧ env = [(3, .int .i64 ((sumN (ps.take i) : Nat) : Int)), (6, .slice a n c), (7, .int .i64 (n : Int)), (8, .int .i64 (i : Int))] ∧ S = [A]) n _ _ ⟨0, by omega, by omega, rfl, rfl⟩ xlss (Ent.refl _) ?_
 rintro mm env S ⟨i, hi, rfl, rfl, rfl⟩
 by_cases hin : i < n
 ·have hin2 : i < ps.length := by omega
  have hsuc := sumN_take_succ ps i hin2
  have hle := sumN_take_le ps (i + 1)
  have hpo := ho _ (List.getElem_mem hin2)
  refine t_pure (hA.some' (by omega)) ?_
  rintro ⟨b, off, rfl⟩
  repeat' first | refine wb fun _ => ?_ | refine wk ?_ | refine wc ?_ ?_ <;> intro h <;> try omega | refine l_qs (by exact q_loadRdA (j := i) (hA.up xpkd) rfl rfl rfl rfl rfl (pcs_get hin2)) rfl ?_ | fail
  refine o_buildSlice rfl rfl rfl rfl rfl rfl rfl rfl rfl rfl rfl rfl fun pb => ?_
  repeat' first | refine wk ?_ | refine wc ?_ ?_ <;> intro h <;> try omega | fail
  refine c_call (s_nodeMay (own (some ⟨pb, 0, none⟩) 1 1 88 4 (pcs [ps[i]])) (some ⟨pb, 0, none⟩) 1 1 [ps[i]] (Rds.own 0 rfl) rfl (by omega) (by omega) (fun p hp => by rw [List.mem_singleton.1 hp]; exact hpo) (by simp [sumN]; exact hpo.2.2.2.1)) rfl xpkd rfl rfl ?_
  rintro v S ⟨rfl, rfl⟩
  refine l_tell rfl ?_
  repeat' first | refine wk ?_ | refine wc ?_ ?_ <;> intro h <;> try omega | fail
  exact ⟨rfl, n - (i + 1), _, _, by omega, ⟨i + 1, by omega, rfl, rfl, rfl⟩, (by rw [hsuc]; exact xlss), Ent.pick xpkd⟩
 ·have e : i = n := by omega
  subst e
  repeat' first | refine wk ?_ | refine wc ?_ ?_ <;> intro h <;> try omega | fail
  exact b_ret [A] rfl (Ent.refl _) ⟨rfl, rfl⟩
end Go.Ox
end
