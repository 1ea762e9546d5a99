/- WholeKept, part 49. No condition. -/
import Derived.Test.YtonpakokjgloaaaGreatOx39
import Derived.Test.YtonpakokjgloaaaGreatOx46
import Derived.Test.YtonpakokjgloaaaGreatOx47
import Derived.Test.YtonpakokjgloaaaGreatOx48
set_option linter.all false
section
set_option maxRecDepth 100000
set_option maxHeartbeats 1600000
namespace Go.Ox
open Go Go.Proofs
theorem s_scraps (V T s d : Nat) (tv lv : Value) (pa : Option Addr) (pn pc cur : Nat) (su nx : Su) (ka : Option Addr) (kn kc : Nat) (K : SK) (hK : K.ok) (pg : Nat → Option (List Nat)) (sl fu no : Nat) (ps : List Pc) (hp : pg no = some (lfB no ps)) (hps : LfOk ps) (hno0 : 1 ≤ no) (hno : no < 1048576) :
  Spec Tryz.prog 112 [.pointer (some ⟨V, 0, none⟩), .int .i64 no] [vaC V K.cc s T d tv lv pa pn pc cur su nx ka kn kc, trC T K.cc s, stC K pg sl (fu + 256 * K.n)]
   (fun v S => ∃ (a' : Option Addr) (c' : Nat), v = .slice a' ps.length c' ∧ S = [own a' ps.length c' 85 3 (scV ps), vaC V K.cc s T d tv lv pa pn pc cur su nx ka kn kc, trC T K.cc s, stC K pg sl fu]) := by
 have hps' := hps
 obtain ⟨q1, q2, q3, q4⟩ := hps
 refine spec_of Tryz.func112 rfl Tryz.results112 Tryz.ntmps112 rfl ?_
 repeat' first | refine wk ?_ | refine wc ?_ ?_ <;> intro h <;> try omega | fail
 refine c_call (s_vtree V K.cc s T d tv lv pa pn pc cur su nx ka kn kc) rfl xpkd rfl rfl ?_
 rintro v S ⟨rfl, rfl⟩
 refine l_tell rfl ?_
 repeat' first | refine wk ?_ | refine wc ?_ ?_ <;> intro h <;> try omega | fail
 refine c_call (s_tList T s K hK pg sl fu no ps hp hps' hno0 hno) rfl xpkd rfl rfl ?_
 rintro v S ⟨a, c, rfl, rfl⟩
 refine l_tell rfl ?_
 repeat' first | refine wk ?_ | refine wc ?_ ?_ <;> intro h <;> try omega | fail
 refine c_call s_must rfl .nil rfl rfl ?_
 rintro v S ⟨rfl, rfl⟩
 refine l_tell rfl ?_
 repeat' first | refine wk ?_ | refine wc ?_ ?_ <;> intro h <;> try omega | fail
 refine t_ent (ent_nil 85 3 _) ?_
 refine t_loop (fun mm env S => ∃ (i : Nat) (a3 : Option Addr) (c3 : Nat), i ≤ ps.length ∧ mm = ps.length - i ∧ env = [(7, .slice a3 i c3), (19, .slice a ps.length c), (20, .int .i64 (ps.length : Int)), (21, .int .i64 (i : Int))] ∧ S = [own a3 i c3 85 3 (scV (ps.take i)), own a ps.length c 88 4 (pcs ps), vaC V K.cc s T d tv lv pa pn pc cur su nx ka kn kc, trC T K.cc s, stC K pg sl fu]) ps.length _ _ ⟨0, none, 0, by omega, by omega, rfl, rfl⟩ xlss (Ent.pick xpkd) ?_
 rintro mm env S ⟨i, a3, c3, hi, rfl, rfl, rfl⟩
 by_cases hin : i < ps.length
 ·refine t_pure (fun y hy => own_some (a := a) (n := ps.length) (c := c) (e := 88) (z := 4) (els := pcs ps) (S := []) q1 y (Ent.pick xpkd y hy)) ?_
  rintro ⟨b, rfl, -⟩
  repeat' first | refine wb fun _ => ?_ | refine wk ?_ | refine wc ?_ ?_ <;> intro h <;> try omega | refine l_qs (by exact q_loadRdA (j := i) (own_rds (a := some ⟨b, 0, none⟩) (n := ps.length) (c := c) (els := pcs ps) xfnd) rfl rfl rfl rfl rfl (pcs_get hin)) rfl ?_ | fail
  refine o_buildSlice rfl rfl rfl rfl rfl rfl rfl rfl rfl rfl rfl rfl fun pb => ?_
  repeat' first | refine wk ?_ | refine wc ?_ ?_ <;> intro h <;> try omega | fail
  refine c_append rfl rfl xhol (own_rds (a := some ⟨pb, 0, none⟩) xfnd) rfl rfl rfl rfl rfl (by show (i + 1) * 24 ≤ _; omega) (by omega) rfl fun a4 c4 => ?_
  repeat' first | refine wk ?_ | refine wc ?_ ?_ <;> intro h <;> try omega | fail
  have hst : scV (ps.take i) ++ [scC ps[i]] = scV (ps.take (i + 1)) := by
   unfold scV
   rw [List.take_succ_eq_append_getElem hin, List.map_append]; rfl
  refine ⟨rfl, ps.length - (i + 1), _, _, by omega, ⟨i + 1, a4, c4, by omega, rfl, rfl, rfl⟩, xlss, ?_⟩
  rw [← hst]
  exact Ent.pick xpkd
 ·have : i = ps.length := by omega
  subst this
  rw [List.take_length]
  repeat' first | refine wk ?_ | refine wc ?_ ?_ <;> intro h <;> try omega | fail
  exact b_ret [own a3 ps.length c3 85 3 (scV ps), vaC V K.cc s T d tv lv pa pn pc cur su nx ka kn kc, trC T K.cc s, stC K pg sl fu] rfl (Ent.pick xpkd) ⟨a3, c3, rfl, rfl⟩
end Go.Ox
end
section
namespace Go.Ox
open Go Go.Proofs
def SK.get (K : SK) : Nm → Option (List Nat)
 | .o => K.o
 | .s => none
 | .t => K.t
 | .j => K.j
def SK.put (K : SK) : Nm → List Nat → SK
 | .o, b => { K with o := some b }
 | .s, _ => K
 | .t, b => { K with t := some b }
 | .j, b => { K with j := some b }
theorem s_stwrite (A : Asn) (K : SK) (hK : K.ok) (pg : Nat → Option (List Nat)) (sl fu at_ : Nat) (n : Nm) (hn : n ≠ .s) (a2 : Option Addr) (m c2 : Nat) (ys : List Nat) (hr : Rds [A] a2 m 1 (vb ys)) (hy : ys.length = m) (hc : m ≤ c2) (h1 : at_ ≤ lenO (K.get n)) (h2 : 1 ≤ m) (h3 : at_ + m ≤ 512 * K.n) :
  Spec Tryz.prog 99 [.pointer (some ⟨K.d, 0, none⟩), .string n.name, .int .i64 at_, .slice a2 m c2] [stC K pg sl (fu + m), A] (fun v S => v = .int .i64 0 ∧ S = [stC (K.put n (layB (byO (K.get n)) at_ ys)) pg sl fu, A]) := by
 refine Spec.ex st_open fun r hst => ?_
 have htot := tot_le hK hst.1.stl
 obtain ⟨k1, k2, k3, k4, k5, k6⟩ := hK
 have hg : (K.F r.s).get n = K.get n := by cases n <;> first | rfl | exact absurd rfl hn
 refine (spec_frame (s_write4 A K.d K.room fu at_ (K.F r.s) n a2 m c2 ys hr hy hc (by rw [hg]; exact h1) h2 (by omega) k6) (stF K r)).conseq (st_in K (fu + m) r [A]) ?_
 rintro v S ⟨S0, ⟨rfl, rfl⟩, rfl⟩
 refine ⟨_, ?_, rfl, rfl⟩
 rw [hg]
 cases n with
 | o => exact st_out (K := K.put .o _) (pg := pg) (sl := sl) r hst [A]
 | s => exact absurd rfl hn
 | t => exact st_out (K := K.put .t _) (pg := pg) (sl := sl) r hst [A]
 | j => exact st_out (K := K.put .j _) (pg := pg) (sl := sl) r hst [A]
theorem s_stread (K : SK) (pg : Nat → Option (List Nat)) (sl fu : Nat) (n : Nm) (hn : n ≠ .s) (bs : List Nat) (ho : K.get n = some bs) (at_ k : Nat) (h1 : at_ + k ≤ bs.length) (h2 : bs.length ≤ 1099511627776) :
  Spec Tryz.prog 68 [.pointer (some ⟨K.d, 0, none⟩), .string n.name, .int .i64 at_, .int .i64 k] [stC K pg sl fu] (fun v S => ∃ a c, v = .tuple #[.slice a k c, .int .i64 0] ∧ S = [own a k c 5 1 (vb ((bs.drop at_).take k)), stC K pg sl fu]) := by
 refine Spec.ex st_open fun r hst => ?_
 have hg : (K.F r.s).get n = K.get n := by cases n <;> first | rfl | exact absurd rfl hn
 refine (spec_frame (s_read4 K.d K.room fu (K.F r.s) n bs (hg.trans ho) at_ k h1 h2) (stF K r)).conseq (st_in K fu r []) ?_
 rintro v S ⟨S0, ⟨a, c, rfl, rfl⟩, rfl⟩
 exact ⟨_, (st_out r hst []).cons _, a, c, rfl, rfl⟩
theorem s_stsizeN (K : SK) (pg : Nat → Option (List Nat)) (sl fu : Nat) (n : Nm) (hn : n ≠ .s) :
  Spec Tryz.prog 69 [.pointer (some ⟨K.d, 0, none⟩), .string n.name] [stC K pg sl fu] (fun v S => v = .int .i64 (szI (K.get n)) ∧ S = [stC K pg sl fu]) := by
 refine Spec.ex st_open fun r hst => ?_
 have hg : (K.F r.s).get n = K.get n := by cases n <;> first | rfl | exact absurd rfl hn
 refine (spec_frame (s_size4 K.d K.room fu (K.F r.s) n) (stF K r)).conseq (st_in K fu r []) ?_
 rintro v S ⟨S0, ⟨rfl, rfl⟩, rfl⟩
 exact ⟨_, st_out r hst [], by rw [hg], rfl⟩
theorem s_stsyncN (K : SK) (pg : Nat → Option (List Nat)) (sl fu : Nat) (n : Nm) (hn : n ≠ .s) (bs : List Nat) (ho : K.get n = some bs) (h2 : bs.length ≤ 1099511627776) :
  Spec Tryz.prog 173 [.pointer (some ⟨K.d, 0, none⟩), .string n.name] [stC K pg sl fu] (fun v S => v = .int .i64 0 ∧ S = [stC K pg sl fu]) := by
 refine Spec.ex st_open fun r hst => ?_
 have hg : (K.F r.s).get n = some bs := by rw [← ho]; cases n <;> first | rfl | exact absurd rfl hn
 have h := s_sync4 K.d K.room fu (K.F r.s) n (by rw [hg]; exact h2)
 simp only [hg] at h
 refine (spec_frame h (stF K r)).conseq (st_in K fu r []) ?_
 rintro v S ⟨S0, ⟨rfl, rfl⟩, rfl⟩
 exact ⟨_, st_out r hst [], rfl, rfl⟩
theorem s_stcut (K : SK) (pg : Nat → Option (List Nat)) (sl fu : Nat) (n : Nm) (hn : n ≠ .s) (bs : List Nat) (ho : K.get n = some bs) (k : Nat) (hk : k ≤ bs.length) :
  Spec Tryz.prog 177 [.pointer (some ⟨K.d, 0, none⟩), .string n.name, .int .i64 k] [stC K pg sl (fu + 1)] (fun v S => v = .int .i64 0 ∧ S = [stC (K.put n (bs.take k)) pg sl fu]) := by
 refine Spec.ex st_open fun r hst => ?_
 have hg : (K.F r.s).get n = some bs := by rw [← ho]; cases n <;> first | rfl | exact absurd rfl hn
 refine (spec_frame (s_cut4 K.d K.room fu k (K.F r.s) n bs hg hk) (stF K r)).conseq (st_in K (fu + 1) r []) ?_
 rintro v S ⟨S0, ⟨rfl, rfl⟩, rfl⟩
 refine ⟨_, ?_, rfl, rfl⟩
 cases n with
 | o => exact st_out (K := K.put .o _) (pg := pg) (sl := sl) r hst []
 | s => exact absurd rfl hn
 | t => exact st_out (K := K.put .t _) (pg := pg) (sl := sl) r hst []
 | j => exact st_out (K := K.put .j _) (pg := pg) (sl := sl) r hst []
end Go.Ox
end
section
set_option maxRecDepth 100000
namespace Go.Ox
open Go Go.Proofs
def jbC (s d : Nat) (xo xg xr xc xt xi xz st wv js : Value) (body sum : Nat) (rest : List Value) : Asn := cellsAt s 204 (.pointer (some ⟨d, 0, none⟩) :: xo :: xg :: xr :: xc :: xt :: xi :: xz :: st :: wv :: js :: .int .i64 (body : Int) :: .int .u32 (sum : Int) :: rest)
def SK.base (K : SK) : Prop := 1 ≤ K.cap ∧ K.cap ≤ 100000 ∧ 1 ≤ K.n ∧ K.n ≤ 1048576 ∧ 4096 + 768 * K.n ≤ K.room ∧ K.room ≤ 1099511627776
theorem SK.base.ok {K : SK} (h : K.base) (hl : lenO K.o + lenO K.t + lenO K.j ≤ 4096) : K.ok := by
 obtain ⟨h1, h2, h3, h4, h5, h6⟩ := h
 exact ⟨h1, h2, h3, h4, by omega, h6⟩
theorem lay_len {b ys : List Nat} {k : Nat} (h : k + ys.length ≤ b.length) : (layB b k ys).length = b.length := by
 rw [layB_length _ _ _ (by omega)]; omega
section
variable (s : Nat) (xo xg xr xc xt xi xz st wv js : Value) (body sum : Nat) (rest : List Value) (K : SK) (hb : K.base) (pg : Nat → Option (List Nat)) (sl fu : Nat)
theorem s_svSlot (d k : Nat) (hbo : body ≤ 2147483647) (hk : k ≤ 64) :
  Spec Tryz.prog 176 [.pointer (some ⟨s, 0, none⟩), .int .i64 (k : Int)] [jbC s d xo xg xr xc xt xi xz st wv js body sum rest] (fun v S => v = .int .i64 ((64 * (1 + (body + 63) / 64 + k) : Nat) : Int) ∧ S = [jbC s d xo xg xr xc xt xi xz st wv js body sum rest]) := by
 refine spec_of Tryz.func176 rfl Tryz.results176 Tryz.ntmps176 rfl ?_
 repeat' first | refine wk ?_ | refine wc ?_ ?_ <;> intro h <;> try omega | fail
 refine c_call (s_rSlot body k hbo hk) rfl .nil rfl rfl ?_
 rintro v S ⟨rfl, rfl⟩
 refine l_tell rfl ?_
 repeat' first | refine wk ?_ | refine wc ?_ ?_ <;> intro h <;> try omega | fail
 refine c_call s_must rfl .nil rfl rfl ?_
 rintro v S ⟨rfl, rfl⟩
 refine l_tell rfl ?_
 repeat' first | refine wk ?_ | refine wc ?_ ?_ <;> intro h <;> try omega | fail
 exact b_ret [jbC s d xo xg xr xc xt xi xz st wv js body sum rest] rfl (Ent.pick xpkd) ⟨rfl, rfl⟩
include hb
theorem s_svHead (w : Nat) (ready : Bool) (jb : List Nat) (hj : K.j = some jb) (hjl : 64 ≤ jb.length) (hl : lenO K.o + lenO K.t + lenO K.j ≤ 4096) (hw : w ≤ 2147483647) (hbo : body ≤ 2147483647) (hsu : sum < 4294967296) :
  Spec Tryz.prog 117 [.pointer (some ⟨s, 0, none⟩), .int .i64 (w : Int), .bool ready] [jbC s K.d xo xg xr xc xt xi xz st wv js body sum rest, stC K pg sl (fu + 64)] (fun v S => ∃ h, h.length = 64 ∧ v = .tuple #[] ∧ S = [jbC s K.d xo xg xr xc xt xi xz st wv js body sum rest, stC (K.put .j (layB jb 0 h)) pg sl fu]) := by
 have hK := hb.ok hl
 have hjl2 : jb.length ≤ 4096 := by
  have : lenO K.j = jb.length := by rw [hj]; rfl
  omega
 refine spec_of Tryz.func117 rfl Tryz.results117 Tryz.ntmps117 rfl ?_
 repeat' first | refine t_draw (id := 0) (.eval 0 true (.eval 1 true (.eval 2 true (.eval 3 true (.eval 4 true (.eval 5 false (.eval 6 true (.eval 7 true (.eval 8 true (.eval 9 false (.eval 10 true (.eff 11 [5, 9] (.eval 12 true (.eval 13 true (.eval 14 true (.eff 15 [] (.eff 16 [] .fin .stop) .stop)))) .stop)))))))))))) rfl (by kernel_rfl) ?_ | refine wk ?_ | refine wc ?_ ?_ <;> intro h <;> try omega | fail
 refine c_call (s_rHead w ready body sum hw hbo hsu) rfl .nil rfl rfl ?_
 rintro v S ⟨a, c, rfl, rfl⟩
 refine l_tell rfl ?_
 repeat' first | refine wk ?_ | refine wc ?_ ?_ <;> intro h <;> try omega | fail
 refine c_call s_must rfl .nil rfl rfl ?_
 rintro v S ⟨rfl, rfl⟩
 refine l_tell rfl ?_
 repeat' first | refine wk ?_ | refine wc ?_ ?_ <;> intro h <;> try omega | fail
 refine l_fact (by_le (a := a) xfnd) fun hac => ?_
 refine l_open by_open xrmv fun bs hbs => ?_
 have hw4 := s_stwrite (own a 64 c 5 1 (vb bs)) K hK pg sl fu 0 .j (fun h => by cases h) a 64 c bs (Rds.own 0 rfl) hbs.1 hac (by omega) (by omega) (by have := hb.2.2.1; omega)
 rw [show K.get .j = some jb from hj] at hw4
 refine c_call hw4 rfl xpkd rfl rfl ?_
 rintro v S ⟨rfl, rfl⟩
 refine l_tell rfl ?_
 repeat' first | refine wk ?_ | refine wc ?_ ?_ <;> intro h <;> try omega | fail
 refine c_call s_must rfl .nil rfl rfl ?_
 rintro v S ⟨rfl, rfl⟩
 refine l_tell rfl ?_
 repeat' first | refine wk ?_ | refine wc ?_ ?_ <;> intro h <;> try omega | fail
 refine c_call (s_stsyncN (K.put .j (layB jb 0 bs)) pg sl fu .j (fun h => by cases h) (layB jb 0 bs) rfl (by rw [lay_len (by omega)]; omega)) rfl xpkd rfl rfl ?_
 rintro v S ⟨rfl, rfl⟩
 refine l_tell rfl ?_
 repeat' first | refine wk ?_ | refine wc ?_ ?_ <;> intro h <;> try omega | fail
 refine c_call s_must rfl .nil rfl rfl ?_
 rintro v S ⟨rfl, rfl⟩
 refine l_tell rfl ?_
 repeat' first | refine wk ?_ | refine wc ?_ ?_ <;> intro h <;> try omega | fail
 exact b_end [jbC s K.d xo xg xr xc xt xi xz st wv js body sum rest, stC (K.put .j (layB jb 0 bs)) pg sl fu] rfl (Ent.pick xpkd) ⟨bs, hbs.1, rfl, rfl⟩
end
end Go.Ox
end
section
set_option maxRecDepth 100000
set_option maxHeartbeats 1600000
namespace Go.Ox
open Go Go.Proofs
section
variable (s : Nat) (xo xg xr xc xt xi xz st wv js : Value) (body sum : Nat) (rest : List Value) (K : SK) (hb : K.base) (pg : Nat → Option (List Nat)) (sl fu : Nat)
theorem s_svMade (pb pc : Nat) (tb ob : List Nat) (ht : K.t = some tb) (htl : tb.length = 2) (ho : K.o = some ob) (hol : ob.length = 7) :
  Spec Tryz.prog 180 [.pointer (some ⟨s, 0, none⟩), .agg #[.int .i64 0, .slice (some ⟨pb, 0, none⟩) 2 pc]] [jbC s K.d xo xg xr xc xt xi xz st wv js body sum rest, own (some ⟨pb, 0, none⟩) 2 pc 85 3 awLV, stC K pg sl fu] (fun v S => ∃ b c, v = .slice (some ⟨b, 0, none⟩) 6 c ∧ S = [own (some ⟨b, 0, none⟩) 6 c 5 1 (vb ((tb.drop 0).take 2 ++ (ob.drop 3).take 4)), jbC s K.d xo xg xr xc xt xi xz st wv js body sum rest, own (some ⟨pb, 0, none⟩) 2 pc 85 3 awLV, stC K pg sl fu]) := by
 refine spec_of Tryz.func180 rfl Tryz.results180 Tryz.ntmps180 rfl ?_
 repeat' first | refine t_rounds 3 (rnd_succ ?_) | refine rnd_succ ?_ | refine wb fun _ => ?_ | refine t_draw (id := 10) (.eval 0 true (.eval 1 true (.eval 2 true (.eval 3 false (.eval 4 true (.eval 5 false (.eval 6 true (.eval 7 false (.eff 8 [] (.eval 9 true (.eval 10 true (.eval 11 true (.eff 12 [] (.eff 13 [] .fin .stop) .stop)))) .stop))))))))) rfl (by kernel_rfl) ?_ | refine t_draw (id := 12) (.eval 0 true (.eval 1 true (.eval 2 true (.eval 3 false (.eval 4 true (.eval 5 false (.eval 6 true (.eval 7 false (.eff 8 [] (.eval 9 true (.eval 10 true (.eval 11 true (.eff 12 [] (.eff 13 [] .fin .stop) .stop)))) .stop))))))))) rfl (by kernel_rfl) ?_ | refine wk ?_ | refine wc ?_ ?_ <;> intro h <;> try omega | refine l_qs (by (apply c_loadOA; exact rfl; (repeat (first | exact CAt.here | apply CAt.there)); exact rfl; exact rfl; exact rfl)) rfl ?_ | refine d_qs rfl (by (apply c_loadOA; exact rfl; (repeat (first | exact CAt.here | apply CAt.there)); exact rfl; exact rfl; exact rfl)) rfl ?_ | refine d_gqs rfl rfl (by (apply c_loadOA; exact rfl; (repeat (first | exact CAt.here | apply CAt.there)); exact rfl; exact rfl; exact rfl)) rfl ?_ | refine l_qs (by (apply c_loadO; exact rfl; (repeat (first | exact CAt.here | apply CAt.there)); exact rfl; exact rfl; exact rfl)) rfl ?_ | refine d_qs rfl (by (apply c_loadO; exact rfl; (repeat (first | exact CAt.here | apply CAt.there)); exact rfl; exact rfl; exact rfl)) rfl ?_ | refine d_gqs rfl rfl (by (apply c_loadO; exact rfl; (repeat (first | exact CAt.here | apply CAt.there)); exact rfl; exact rfl; exact rfl)) rfl ?_ | (refine n_eff ?_ ?_; · (repeat first | refine wre ?_ | refine r_cons rfl (by first | (apply c_loadOA; exact rfl; (repeat (first | exact CAt.here | apply CAt.there)); exact rfl; exact rfl; exact rfl) | (apply c_loadO; exact rfl; (repeat (first | exact CAt.here | apply CAt.there)); exact rfl; exact rfl; exact rfl) | fail) rfl ?_ | refine r_gcons rfl rfl (by first | (apply c_loadOA; exact rfl; (repeat (first | exact CAt.here | apply CAt.there)); exact rfl; exact rfl; exact rfl) | (apply c_loadO; exact rfl; (repeat (first | exact CAt.here | apply CAt.there)); exact rfl; exact rfl; exact rfl) | fail) rfl ?_ | exact r_nil | fail)) | fail
 refine c_call (s_stread K pg sl fu .t (fun h => by cases h) tb ht 0 2 (by omega) (by omega)) rfl xpkd rfl rfl ?_
 rintro v S ⟨a1, c1, rfl, rfl⟩
 refine l_tell rfl ?_
 repeat' first | refine wk ?_ | refine wc ?_ ?_ <;> intro h <;> try omega | fail
 refine c_call s_must rfl .nil rfl rfl ?_
 rintro v S ⟨rfl, rfl⟩
 refine l_tell rfl ?_
 repeat' first | refine wk ?_ | refine wc ?_ ?_ <;> intro h <;> try omega | fail
 refine c_appendN rfl rfl (own_rds (a := a1) xfnd) (by omega) rfl rfl rfl rfl rfl (by decide) (by omega) rfl fun b3 c3 => ?_
 repeat' first | refine t_rounds 3 (rnd_succ ?_) | refine rnd_succ ?_ | refine wb fun _ => ?_ | refine t_draw (id := 10) (.eval 0 true (.eval 1 true (.eval 2 true (.eval 3 false (.eval 4 true (.eval 5 false (.eval 6 true (.eval 7 false (.eff 8 [] (.eval 9 true (.eval 10 true (.eval 11 true (.eff 12 [] (.eff 13 [] .fin .stop) .stop)))) .stop))))))))) rfl (by kernel_rfl) ?_ | refine t_draw (id := 12) (.eval 0 true (.eval 1 true (.eval 2 true (.eval 3 false (.eval 4 true (.eval 5 false (.eval 6 true (.eval 7 false (.eff 8 [] (.eval 9 true (.eval 10 true (.eval 11 true (.eff 12 [] (.eff 13 [] .fin .stop) .stop)))) .stop))))))))) rfl (by kernel_rfl) ?_ | refine wk ?_ | refine wc ?_ ?_ <;> intro h <;> try omega | refine l_qs (by (apply c_loadOA; exact rfl; (repeat (first | exact CAt.here | apply CAt.there)); exact rfl; exact rfl; exact rfl)) rfl ?_ | refine d_qs rfl (by (apply c_loadOA; exact rfl; (repeat (first | exact CAt.here | apply CAt.there)); exact rfl; exact rfl; exact rfl)) rfl ?_ | refine d_gqs rfl rfl (by (apply c_loadOA; exact rfl; (repeat (first | exact CAt.here | apply CAt.there)); exact rfl; exact rfl; exact rfl)) rfl ?_ | refine l_qs (by (apply c_loadO; exact rfl; (repeat (first | exact CAt.here | apply CAt.there)); exact rfl; exact rfl; exact rfl)) rfl ?_ | refine d_qs rfl (by (apply c_loadO; exact rfl; (repeat (first | exact CAt.here | apply CAt.there)); exact rfl; exact rfl; exact rfl)) rfl ?_ | refine d_gqs rfl rfl (by (apply c_loadO; exact rfl; (repeat (first | exact CAt.here | apply CAt.there)); exact rfl; exact rfl; exact rfl)) rfl ?_ | (refine n_eff ?_ ?_; · (repeat first | refine wre ?_ | refine r_cons rfl (by first | (apply c_loadOA; exact rfl; (repeat (first | exact CAt.here | apply CAt.there)); exact rfl; exact rfl; exact rfl) | (apply c_loadO; exact rfl; (repeat (first | exact CAt.here | apply CAt.there)); exact rfl; exact rfl; exact rfl) | fail) rfl ?_ | refine r_gcons rfl rfl (by first | (apply c_loadOA; exact rfl; (repeat (first | exact CAt.here | apply CAt.there)); exact rfl; exact rfl; exact rfl) | (apply c_loadO; exact rfl; (repeat (first | exact CAt.here | apply CAt.there)); exact rfl; exact rfl; exact rfl) | fail) rfl ?_ | exact r_nil | fail)) | fail
 refine c_call (s_stread K pg sl fu .o (fun h => by cases h) ob ho 3 4 (by omega) (by omega)) rfl xpkd rfl rfl ?_
 rintro v S ⟨a4, c4, rfl, rfl⟩
 refine l_tell rfl ?_
 repeat' first | refine wk ?_ | refine wc ?_ ?_ <;> intro h <;> try omega | fail
 refine c_call s_must rfl .nil rfl rfl ?_
 rintro v S ⟨rfl, rfl⟩
 refine l_tell rfl ?_
 repeat' first | refine wk ?_ | refine wc ?_ ?_ <;> intro h <;> try omega | fail
 refine c_appendS rfl rfl xhol (own_rds (a := a4) xfnd) (by omega) rfl rfl rfl rfl rfl (by decide) (by omega) rfl fun b5 c5 => ?_
 rw [vb_app]
 repeat' first | refine t_rounds 3 (rnd_succ ?_) | refine rnd_succ ?_ | refine wb fun _ => ?_ | refine pt_exit ?_ | refine pb_exit ?_ | refine wk ?_ | refine wc ?_ ?_ <;> intro h <;> try omega | refine l_qs (by (apply c_loadOA; exact rfl; (repeat (first | exact CAt.here | apply CAt.there)); exact rfl; exact rfl; exact rfl)) rfl ?_ | refine d_qs rfl (by (apply c_loadOA; exact rfl; (repeat (first | exact CAt.here | apply CAt.there)); exact rfl; exact rfl; exact rfl)) rfl ?_ | refine d_gqs rfl rfl (by (apply c_loadOA; exact rfl; (repeat (first | exact CAt.here | apply CAt.there)); exact rfl; exact rfl; exact rfl)) rfl ?_ | refine l_qs (by (apply c_loadO; exact rfl; (repeat (first | exact CAt.here | apply CAt.there)); exact rfl; exact rfl; exact rfl)) rfl ?_ | refine d_qs rfl (by (apply c_loadO; exact rfl; (repeat (first | exact CAt.here | apply CAt.there)); exact rfl; exact rfl; exact rfl)) rfl ?_ | refine d_gqs rfl rfl (by (apply c_loadO; exact rfl; (repeat (first | exact CAt.here | apply CAt.there)); exact rfl; exact rfl; exact rfl)) rfl ?_ | (refine n_eff ?_ ?_; · (repeat first | refine wre ?_ | refine r_cons rfl (by first | (apply c_loadOA; exact rfl; (repeat (first | exact CAt.here | apply CAt.there)); exact rfl; exact rfl; exact rfl) | (apply c_loadO; exact rfl; (repeat (first | exact CAt.here | apply CAt.there)); exact rfl; exact rfl; exact rfl) | fail) rfl ?_ | refine r_gcons rfl rfl (by first | (apply c_loadOA; exact rfl; (repeat (first | exact CAt.here | apply CAt.there)); exact rfl; exact rfl; exact rfl) | (apply c_loadO; exact rfl; (repeat (first | exact CAt.here | apply CAt.there)); exact rfl; exact rfl; exact rfl) | fail) rfl ?_ | exact r_nil | fail)) | fail
 exact b_ret [own (some ⟨b5, 0, none⟩) 6 c5 5 1 (vb ((tb.drop 0).take 2 ++ (ob.drop 3).take 4)), jbC s K.d xo xg xr xc xt xi xz st wv js body sum rest, own (some ⟨pb, 0, none⟩) 2 pc 85 3 awLV, stC K pg sl fu] rfl (Ent.pick xpkd) ⟨b5, c5, rfl, rfl⟩
include hb
theorem s_svWave (sb sc pb pc : Nat) (jb ob : List Nat) (hj : K.j = some jb) (hjl : 198 ≤ jb.length) (ho : K.o = some ob) (hol : ob.length = 7) (hl : lenO K.o + lenO K.t + lenO K.j ≤ 4096) (xz6 : xz = .int .i64 6) (hb98 : body = 98) :
  Spec Tryz.prog 181 [.pointer (some ⟨s, 0, none⟩), .slice (some ⟨sb, 0, none⟩) 1 1] [jbC s K.d xo xg xr xc xt xi xz st wv js body sum rest, own (some ⟨sb, 0, none⟩) 1 sc 276 2 [[.int .i64 0, .slice (some ⟨pb, 0, none⟩) 2 pc]], stC K pg sl (fu + 6)] (fun v S => v = .tuple #[] ∧ S = [jbC s K.d xo xg xr xc xt xi xz st wv js body sum rest, own (some ⟨sb, 0, none⟩) 1 sc 276 2 [[.int .i64 0, .slice (some ⟨pb, 0, none⟩) 2 pc]], stC (K.put .o (layB ob 0 ((jb.drop 192).take 6))) pg sl fu]) := by
 have hK := hb.ok hl
 subst xz6 hb98
 have hjl2 : jb.length ≤ 4096 := by
  have : lenO K.j = jb.length := by rw [hj]; rfl
  omega
 refine spec_of Tryz.func181 rfl Tryz.results181 Tryz.ntmps181 rfl ?_
 repeat' first | refine t_rounds 3 (rnd_succ ?_) | refine rnd_succ ?_ | refine wb fun _ => ?_ | refine t_draw (id := 3) (.eval 0 true (.eval 1 true (.eval 2 true (.eval 3 false (.eval 4 true (.eval 5 true (.eval 7 true (.eval 8 true (.eval 9 true (.eval 10 true (.eval 11 true (.eval 12 false (.eval 13 true (.eval 14 false (.eval 15 true (.eval 16 true (.eval 17 true (.eff 6 [3, 12, 14] (.eff 18 [12, 14] (.eval 19 true (.eval 20 true (.eval 21 true (.eff 22 [] (.eff 23 [] .fin .stop) .stop)))) .stop) .stop)))))))))))))))))) rfl (by kernel_rfl) ?_ | refine t_draw (id := 5) (.eval 0 true (.eval 1 true (.eval 2 true (.eval 3 false (.eval 4 true (.eval 5 false (.eval 6 true (.eval 7 true (.eff 8 [5] (.eff 9 [3, 5] .fin .stop) .stop))))))))) rfl (by kernel_rfl) ?_ | refine wk ?_ | refine wc ?_ ?_ <;> intro h <;> try omega | refine l_qs (by (apply c_loadOA; exact rfl; (repeat (first | exact CAt.here | apply CAt.there)); exact rfl; exact rfl; exact rfl)) rfl ?_ | refine d_qs rfl (by (apply c_loadOA; exact rfl; (repeat (first | exact CAt.here | apply CAt.there)); exact rfl; exact rfl; exact rfl)) rfl ?_ | refine d_gqs rfl rfl (by (apply c_loadOA; exact rfl; (repeat (first | exact CAt.here | apply CAt.there)); exact rfl; exact rfl; exact rfl)) rfl ?_ | refine l_qs (by (apply c_loadO; exact rfl; (repeat (first | exact CAt.here | apply CAt.there)); exact rfl; exact rfl; exact rfl)) rfl ?_ | refine d_qs rfl (by (apply c_loadO; exact rfl; (repeat (first | exact CAt.here | apply CAt.there)); exact rfl; exact rfl; exact rfl)) rfl ?_ | refine d_gqs rfl rfl (by (apply c_loadO; exact rfl; (repeat (first | exact CAt.here | apply CAt.there)); exact rfl; exact rfl; exact rfl)) rfl ?_ | (refine n_eff ?_ ?_; · (repeat first | refine wre ?_ | refine r_cons rfl (by first | (apply c_loadOA; exact rfl; (repeat (first | exact CAt.here | apply CAt.there)); exact rfl; exact rfl; exact rfl) | (apply c_loadO; exact rfl; (repeat (first | exact CAt.here | apply CAt.there)); exact rfl; exact rfl; exact rfl) | fail) rfl ?_ | refine r_gcons rfl rfl (by first | (apply c_loadOA; exact rfl; (repeat (first | exact CAt.here | apply CAt.there)); exact rfl; exact rfl; exact rfl) | (apply c_loadO; exact rfl; (repeat (first | exact CAt.here | apply CAt.there)); exact rfl; exact rfl; exact rfl) | fail) rfl ?_ | exact r_nil | fail)) | fail
 refine c_call (s_svSlot s xo xg xr xc xt xi (.int .i64 6) st wv js 98 sum rest K.d 0 (by omega) (by omega)) rfl xpkd rfl rfl ?_
 rintro v S ⟨rfl, rfl⟩
 refine l_tell rfl ?_
 repeat' first | refine wk ?_ | refine wc ?_ ?_ <;> intro h <;> try omega | fail
 refine c_call (s_stread K pg sl (fu + 6) .j (fun h => by cases h) jb hj 192 6 (by omega) (by omega)) rfl xpkd rfl rfl ?_
 rintro v S ⟨a1, c1, rfl, rfl⟩
 refine l_tell rfl ?_
 repeat' first | refine wk ?_ | refine wc ?_ ?_ <;> intro h <;> try omega | fail
 refine c_call s_must rfl .nil rfl rfl ?_
 rintro v S ⟨rfl, rfl⟩
 refine l_tell rfl ?_
 refine l_fact (own_leC (a := a1) xfnd) fun hac => ?_
 repeat' first | refine t_draw (id := 3) (.eval 0 true (.eval 1 true (.eval 2 true (.eval 3 false (.eval 4 true (.eval 5 true (.eval 7 true (.eval 8 true (.eval 9 true (.eval 10 true (.eval 11 true (.eval 12 false (.eval 13 true (.eval 14 false (.eval 15 true (.eval 16 true (.eval 17 true (.eff 6 [3, 12, 14] (.eff 18 [12, 14] (.eval 19 true (.eval 20 true (.eval 21 true (.eff 22 [] (.eff 23 [] .fin .stop) .stop)))) .stop) .stop)))))))))))))))))) rfl (by kernel_rfl) ?_ | refine t_draw (id := 5) (.eval 0 true (.eval 1 true (.eval 2 true (.eval 3 false (.eval 4 true (.eval 5 false (.eval 6 true (.eval 7 true (.eff 8 [5] (.eff 9 [3, 5] .fin .stop) .stop))))))))) rfl (by kernel_rfl) ?_ | refine wk ?_ | refine wc ?_ ?_ <;> intro h <;> try omega | fail
 have hw4 := s_stwrite (own a1 6 c1 5 1 (vb ((jb.drop 192).take 6))) K hK pg sl fu 0 .o (fun h => by cases h) a1 6 c1 ((jb.drop 192).take 6) (Rds.own 0 rfl) (by rw [List.length_take, List.length_drop]; omega) hac (by omega) (by omega) (by have := hb.2.2.1; omega)
 rw [show K.get .o = some ob from ho] at hw4
 refine c_call hw4 rfl xpkd rfl rfl ?_
 rintro v S ⟨rfl, rfl⟩
 refine l_tell rfl ?_
 repeat' first | refine wk ?_ | refine wc ?_ ?_ <;> intro h <;> try omega | fail
 refine c_call s_must rfl .nil rfl rfl ?_
 rintro v S ⟨rfl, rfl⟩
 refine l_tell rfl ?_
 repeat' first | refine t_rounds 3 (rnd_succ ?_) | refine rnd_succ ?_ | refine pt_exit ?_ | refine pb_exit ?_ | refine wk ?_ | refine wc ?_ ?_ <;> intro h <;> try omega | fail
 refine c_call (s_stsyncN (K.put .o (layB ob 0 ((jb.drop 192).take 6))) pg sl fu .o (fun h => by cases h) (layB ob 0 ((jb.drop 192).take 6)) rfl (by rw [lay_len (by rw [List.length_take, List.length_drop]; omega)]; omega)) rfl xpkd rfl rfl ?_
 rintro v S ⟨rfl, rfl⟩
 refine l_tell rfl ?_
 repeat' first | refine wk ?_ | refine wc ?_ ?_ <;> intro h <;> try omega | fail
 refine c_call s_must rfl .nil rfl rfl ?_
 rintro v S ⟨rfl, rfl⟩
 refine l_tell rfl ?_
 repeat' first | refine wk ?_ | refine wc ?_ ?_ <;> intro h <;> try omega | fail
 exact b_end [jbC s K.d xo xg xr xc xt xi (.int .i64 6) st wv js 98 sum rest, own (some ⟨sb, 0, none⟩) 1 sc 276 2 [[.int .i64 0, .slice (some ⟨pb, 0, none⟩) 2 pc]], stC (K.put .o (layB ob 0 ((jb.drop 192).take 6))) pg sl fu] rfl (Ent.pick xpkd) ⟨rfl, rfl⟩
end
end Go.Ox
end
