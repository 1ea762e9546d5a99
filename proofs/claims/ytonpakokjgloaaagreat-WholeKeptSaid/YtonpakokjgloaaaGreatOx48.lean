/- WholeKept, part 48. No condition. -/
import Derived.Test.YtonpakokjgloaaaGreatOx38
set_option linter.all false
section
set_option maxRecDepth 100000
set_option maxHeartbeats 800000
namespace Go.Ox
open Go Go.Proofs
theorem s_streadO (K : SK) (pg : Nat → Option (List Nat)) (sl fu : Nat) (bs : List Nat) (ho : K.o = some bs) (at_ k : Nat) (h1 : at_ + k ≤ bs.length) (h2 : bs.length ≤ 1099511627776) :
  Spec Tryz.prog 68 [.pointer (some ⟨K.d, 0, none⟩), .string (Nm.name .o), .int .i64 at_, .int .i64 k] [stC K pg sl fu] (fun v S => ∃ a c, v = .tuple #[.slice a k c, .int .i64 0] ∧ S = [own a k c 5 1 (vb ((bs.drop at_).take k)), stC K pg sl fu]) := by
 refine Spec.ex st_open fun r hst => ?_
 refine (spec_frame (s_read4 K.d K.room fu (K.F r.s) .o bs ho at_ k h1 h2) (stF K r)).conseq (st_in K fu r []) ?_
 rintro v S ⟨S0, ⟨a, c, rfl, rfl⟩, rfl⟩
 exact ⟨_, (st_out r hst []).cons _, a, c, rfl, rfl⟩
def ixD (x d mp o rd : Nat) : Asn := cellsAt x 376 [.pointer (some ⟨d, 0, none⟩), .string (Nm.name .o), .int .i64 o, .int .i64 (rd : Int), .map (some mp)]
theorem s_ixLook (x mp o rd : Nat) (K : SK) (pg : Nat → Option (List Nat)) (sl fu : Nat) (bs : List Nat) (ho : K.o = some bs) (f t : Nat) (hf : f < t) (h1 : t ≤ bs.length) (h2 : bs.length ≤ 1048576) (hrd : rd ≤ 1099511627776) :
  Spec Tryz.prog 271 [.pointer (some ⟨x, 0, none⟩), .int .i64 f, .int .i64 t] [ixD x K.d mp o rd, stC K pg sl fu] (fun v S => v = .tuple #[.int .i64 (nlC ((bs.drop f).take (t - f)) : Nat), .int .i64 0] ∧ S = [ixD x K.d mp o (rd + (t - f)), stC K pg sl fu]) := by
 refine spec_of Tryz.func271 rfl Tryz.results271 Tryz.ntmps271 rfl ?_
 repeat' first | refine wk ?_ | refine wc ?_ ?_ <;> intro h <;> try omega | fail
 refine t_draw (id := 1) (.eval 0 true (.eval 1 true (.eval 2 true (.eval 3 false (.eval 4 true (.eval 5 true (.eval 6 true (.eval 7 false (.eval 8 true (.eval 9 true (.eval 10 true (.eval 11 true (.eff 12 [] (.eval 13 true (.eval 14 true (.eval 15 true (.eff 16 [] (.eff 17 [] .fin .stop) .stop)))) .stop))))))))))))) rfl (by kernel_rfl) ?_
 repeat' first | refine wk ?_ | refine wc ?_ ?_ <;> intro h <;> try omega | fail
 rw [show (t : Int) - f = ((t - f : Nat) : Int) from by omega]
 refine c_call (s_streadO K pg sl fu bs ho f (t - f) (by omega) (by omega)) rfl xpkd rfl rfl ?_
 rintro v S ⟨a, c, rfl, rfl⟩
 refine l_tell rfl ?_
 repeat' first | refine wk ?_ | refine wc ?_ ?_ <;> intro h <;> try omega | fail
 refine c_call (s_eolCount (own a (t - f) c 5 1 (vb ((bs.drop f).take (t - f)))) a (t - f) c ((bs.drop f).take (t - f)) (Rds.own 0 rfl) (by omega)) rfl xpkd rfl rfl ?_
 rintro v S ⟨rfl, rfl⟩
 refine l_tell rfl ?_
 repeat' first | refine wk ?_ | refine wc ?_ ?_ <;> intro h <;> try omega | fail
 have e : ((rd + (t - f) : Nat) : Int) = (rd : Int) + ((t - f : Nat) : Int) := by omega
 refine b_ret [ixD x K.d mp o (rd + (t - f)), stC K pg sl fu] rfl ?_ ⟨rfl, rfl⟩
 unfold ixD
 rw [e]
 exact Ent.pick xpkd
end Go.Ox
end
section
set_option maxRecDepth 100000
set_option maxHeartbeats 800000
namespace Go.Ox
open Go Go.Proofs
theorem s_ixCount (x mp o rd : Nat) (K : SK) (pg : Nat → Option (List Nat)) (sl fu : Nat) (bs : List Nat) (ho : K.o = some bs) (f t : Nat) (hf : f < t) (hf0 : 1 ≤ f) (hto : t ≤ o) (ho64 : o ≤ 64) (h1 : t ≤ bs.length) (h2 : bs.length ≤ 1048576) (hrd : rd ≤ 1099511627776) :
  Spec Tryz.prog 198 [.pointer (some ⟨x, 0, none⟩), .int .i64 f, .int .i64 t] [ixD x K.d mp o rd, amap mp kInt [], stC K pg sl fu] (fun v S => v = .tuple #[.int .i64 (nlC ((bs.drop f).take (t - f)) : Nat), .int .i64 0] ∧ S = [ixD x K.d mp o (rd + (t - f)), amap mp kInt [], stC K pg sl fu]) := by
 have hnl := nlC_le ((bs.drop f).take (t - f))
 have hlen : ((bs.drop f).take (t - f)).length ≤ 64 := by rw [List.length_take]; omega
 refine spec_of Tryz.func198 rfl Tryz.results198 Tryz.ntmps198 rfl ?_
 repeat' first | refine wk ?_ | refine wc ?_ ?_ <;> intro h <;> try omega | fail
 refine t_loop (fun mm env S => (mm = 1 ∧ env = [(0, .pointer (some ⟨x, 0, none⟩)), (1, .int .i64 (f : Int)), (2, .int .i64 (t : Int)), (8, .int .i64 0)] ∧ S = [ixD x K.d mp o rd, amap mp kInt [], stC K pg sl fu]) ∨ (mm = 0 ∧ ∃ q : Int, q = (t : Int) ∧ env = [(0, .pointer (some ⟨x, 0, none⟩)), (1, .int .i64 q), (2, .int .i64 (t : Int)), (8, .int .i64 (nlC ((bs.drop f).take (t - f)) : Nat))] ∧ S = [ixD x K.d mp o (rd + (t - f)), amap mp kInt [], stC K pg sl fu])) 1 _ _ (.inl ⟨rfl, rfl, rfl⟩) xlss (Ent.refl _) ?_
 rintro mm env S (⟨rfl, rfl, rfl⟩ | ⟨rfl, q, rfl, rfl, rfl⟩)
 ·repeat' first | refine wk ?_ | refine wc ?_ ?_ <;> intro h <;> try omega | refine l_qs (by exact c_lookup_no (ok := true) rfl rfl xfnd rfl rfl rfl rfl rfl rfl (fun p hp => by cases hp)) rfl ?_ | fail
  rw [show min (min (((f : Int) / 64 + 1) * 64) (o : Int)) (t : Int) = (t : Int) from by omega]
  refine c_call (s_ixLook x mp o rd K pg sl fu bs ho f t hf h1 h2 hrd) rfl xpkd rfl rfl ?_
  rintro v S ⟨rfl, rfl⟩
  refine l_tell rfl ?_
  repeat' first | refine wk ?_ | refine wc ?_ ?_ <;> intro h <;> try omega | fail
  rw [Int.zero_add]
  exact ⟨rfl, 0, _, _, by omega, .inr ⟨rfl, _, rfl, rfl, rfl⟩, xlss, Ent.pick xpkd⟩
 ·repeat' first | refine wk ?_ | refine wc ?_ ?_ <;> intro h <;> try omega | fail
  exact b_ret [ixD x K.d mp o (rd + (t - f)), amap mp kInt [], stC K pg sl fu] rfl (Ent.pick xpkd) ⟨rfl, rfl⟩
end Go.Ox
end
section
set_option maxRecDepth 100000
set_option maxHeartbeats 800000
namespace Go.Ox
open Go Go.Proofs
theorem s_tNode (T s : Nat) (K : SK) (hK : K.ok) (pg : Nat → Option (List Nat)) (sl fu no : Nat) (ps : List Pc) (hp : pg no = some (lfB no ps)) (hps : LfOk ps) (h1 : 1 ≤ no) (h2 : no < 1048576) :
  Spec Tryz.prog 136 [.pointer (some ⟨T, 0, none⟩), .int .i64 (no : Int)] [trC T K.cc s, stC K pg sl (fu + 256 * K.n)] (fun v S => ∃ a c, v = .tuple #[nodeV a ps.length c, .int .i64 0] ∧ S = [own a ps.length c 88 4 (pcs ps), trC T K.cc s, stC K pg sl fu]) := by
 refine spec_of_d Tryz.func136 rfl Tryz.results136 Tryz.ntmps136 rfl ?_
 repeat' first | refine wk ?_ | refine wc ?_ ?_ <;> intro h <;> try omega | fail
 refine o_alloc rfl rfl fun r4 => ?_
 refine o_alloc rfl rfl fun r5 => ?_
 repeat' first | refine wk ?_ | refine wc ?_ ?_ <;> intro h <;> try omega | fail
 refine l_defer rfl rfl ?_
 repeat' first | refine wk ?_ | refine wc ?_ ?_ <;> intro h <;> try omega | fail
 refine c_call (s_tread T s K hK pg sl fu no ps hp hps h2) rfl xpkd rfl rfl ?_
 rintro v S ⟨a, c, rfl, rfl⟩
 refine l_tell rfl ?_
 repeat' first | refine wk ?_ | refine wc ?_ ?_ <;> intro h <;> try omega | fail
 refine bd_ret (out_recov (d_197 _ _) rfl rfl ?_)
 exact out_nil [own a ps.length c 88 4 (pcs ps), trC T K.cc s, stC K pg sl fu] (.cons (.cell fun N D => c_loadA (b := r4) rfl xfnd rfl rfl rfl) (.cons (.cell fun N D => c_load (b := r5) rfl xfnd rfl rfl rfl) .nil)) (Ent.pick xpkd) ⟨a, c, rfl, rfl⟩
end Go.Ox
end
section
set_option maxRecDepth 100000
set_option maxHeartbeats 1600000
namespace Go.Ox
open Go Go.Proofs
def liC (p : Pc) : List Value := [.int .i64 (p.n : Int), .int .i64 p.l, .int .i64 (p.s : Int), .int .i64 (p.a : Int), .int .i64 (p.n : Int), .int .i64 0]
def liV (ps : List Pc) : List (List Value) := ps.map liC
theorem s_items (A : Asn) (a : Option Addr) (n c : Nat) (ps : List Pc) (hA : PcRd A a n ps) (hl : ps.length = n) (hn : n ≤ 1000) :
  Spec Tryz.prog 137 [nodeV a n c] [A] (fun v S => ∃ a' c', v = .slice a' n c' ∧ S = [own a' n c' 230 6 (liV ps), A]) := by
 refine spec_of Tryz.func137 rfl Tryz.results137 Tryz.ntmps137 rfl ?_
 show Trip _ _ _ _ (numF 0 [.agg #[.bool true, .slice a n c, .slice none 0 0]]) _ _
 repeat' first | refine wk ?_ | refine wc ?_ ?_ <;> intro h <;> try omega | fail
 refine o_box rfl rfl rfl fun b1 => ?_
 repeat' first | refine wk ?_ | refine wc ?_ ?_ <;> intro h <;> try omega | fail
 refine t_ent (ent_nil 230 6 _) ?_
 refine t_loop (fun mm env S => ∃ (i : Nat) (a3 : Option Addr) (c3 : Nat), i ≤ n ∧ mm = n - i ∧ env = [(1, .pointer (some ⟨b1, 0, none⟩)), (3, .slice a3 i c3), (9, .slice a n c), (10, .int .i64 (n : Int)), (11, .int .i64 (i : Int))] ∧ S = [own a3 i c3 230 6 (liV (ps.take i)), A, cellsAt b1 224 [.bool true, .slice a n c, .slice none 0 0]]) n _ _ ⟨0, none, 0, by omega, by omega, rfl, rfl⟩ xlss (Ent.pick xpkd) ?_
 rintro mm env S ⟨i, a3, c3, hi, rfl, rfl, rfl⟩
 by_cases hin : i < n
 ·refine t_pure (fun x hx => (Rds.some' hA (by omega)) x (Ent.pick (Pre := [A]) xpkd x hx)) ?_
  rintro ⟨b, off, rfl⟩
  have hix : i < ps.length := by omega
  repeat' first | refine wb fun _ => ?_ | refine wk ?_ | refine wc ?_ ?_ <;> intro h <;> try omega | refine l_qs (by exact q_loadRdA (j := i) (hA.up xpkd) rfl rfl rfl rfl rfl (pcs_get hix)) rfl ?_ | fail
  refine o_buildSlice rfl rfl rfl rfl rfl rfl rfl rfl rfl rfl rfl rfl fun pb => ?_
  repeat' first | refine wk ?_ | refine wc ?_ ?_ <;> intro h <;> try omega | fail
  refine c_append rfl rfl xhol (own_rds (a := some ⟨pb, 0, none⟩) xfnd) rfl rfl rfl rfl rfl (by show (i + 1) * 48 ≤ _; omega) (by omega) rfl fun a4 c4 => ?_
  repeat' first | refine wk ?_ | refine wc ?_ ?_ <;> intro h <;> try omega | fail
  have hst : liV (ps.take i) ++ [liC ps[i]] = liV (ps.take (i + 1)) := by
   unfold liV
   rw [List.take_succ_eq_append_getElem hix, List.map_append]; rfl
  refine ⟨rfl, n - (i + 1), _, _, by omega, ⟨i + 1, a4, c4, by omega, rfl, rfl, rfl⟩, xlss, ?_⟩
  rw [← hst]
  exact Ent.pick xpkd
 ·have : i = n := by omega
  subst this
  rw [List.take_of_length_le (by omega)]
  repeat' first | refine wk ?_ | refine wc ?_ ?_ <;> intro h <;> try omega | fail
  refine t_loop0 ?_
  repeat' first | refine wk ?_ | refine wc ?_ ?_ <;> intro h <;> try omega | fail
  exact b_ret [own a3 i c3 230 6 (liV ps), A] rfl (Ent.pick xpkd) ⟨a3, c3, rfl, rfl⟩
end Go.Ox
end
section
set_option maxRecDepth 100000
set_option maxHeartbeats 800000
namespace Go.Ox
open Go Go.Proofs
theorem s_lnIn (l T x t mp o rd : Nat) (K : SK) (pg : Nat → Option (List Nat)) (sl fu : Nat) (bs : List Nat) (ho : K.o = some bs) (f n : Nat) (hf : 1 ≤ f) (hn : 1 ≤ n) (hto : f + n ≤ o) (ho64 : o ≤ 64) (h1 : f + n ≤ bs.length) (h2 : bs.length ≤ 1048576) (hrd : rd ≤ 1099511627776) :
  Spec Tryz.prog 138 [.pointer (some ⟨l, 0, none⟩), .agg #[.int .i64 0, .int .i64 (f : Int), .int .i64 (n : Int)], .int .i64 0, .int .i64 (n : Int)] [lnC l T x t, ixD x K.d mp o rd, amap mp kInt [], stC K pg sl fu] (fun v S => v = .tuple #[.int .i64 (nlC ((bs.drop f).take n) : Nat), .int .i64 0] ∧ S = [lnC l T x t, ixD x K.d mp o (rd + n), amap mp kInt [], stC K pg sl fu]) := by
 have hix := s_ixCount x mp o rd K pg sl fu bs ho f (f + n) (by omega) hf hto ho64 h1 h2 hrd
 rw [show f + n - f = n by omega] at hix
 refine spec_of Tryz.func138 rfl Tryz.results138 Tryz.ntmps138 rfl ?_
 repeat' first | refine wk ?_ | refine wc ?_ ?_ <;> intro h <;> try omega | fail
 refine o_box rfl rfl rfl fun b5 => ?_
 repeat' first | refine wk ?_ | refine wc ?_ ?_ <;> intro h <;> try omega | fail
 refine t_draw (id := 2) (.eval 0 true (.eval 1 true (.eval 2 true (.eval 3 false (.eval 4 true (.eval 5 false (.eval 6 true (.eval 7 true (.eval 8 true (.eval 9 false (.eval 10 true (.eval 11 true (.eff 12 [5, 9] (.eval 13 true (.eval 14 true (.eff 15 [] (.eff 16 [] .fin .stop) .stop))) .stop))))))))))))) rfl (by kernel_rfl) ?_
 repeat' first | refine wk ?_ | refine wc ?_ ?_ <;> intro h <;> try omega | fail
 rw [Int.add_zero, show (f : Int) + n = ((f + n : Nat) : Int) from by omega]
 refine c_call hix rfl xpkd rfl rfl ?_
 rintro v S ⟨rfl, rfl⟩
 refine l_tell rfl ?_
 repeat' first | refine wk ?_ | refine wc ?_ ?_ <;> intro h <;> try omega | fail
 exact b_ret [lnC l T x t, ixD x K.d mp o (rd + n), amap mp kInt [], stC K pg sl fu] rfl (Ent.pick xpkd) ⟨rfl, rfl⟩
end Go.Ox
end
section
set_option maxRecDepth 100000
set_option maxHeartbeats 800000
namespace Go.Ox
open Go Go.Proofs
def liA (p : Pc) : Value := .agg #[.int .i64 (p.n : Int), .int .i64 p.l, .int .i64 (p.s : Int), .int .i64 (p.a : Int), .int .i64 (p.n : Int), .int .i64 0]
theorem s_lnWhole1 (x z : Value) (p : Pc) (hp : 0 ≤ p.l) :
  Spec Tryz.prog 139 [x, liA p, z] [] (fun v S => v = .tuple #[.int .i64 p.l, .int .i64 0] ∧ S = []) := by
 refine spec_of Tryz.func139 rfl Tryz.results139 Tryz.ntmps139 rfl ?_
 show Trip _ _ _ _ (numF 0 [x, .agg #[.int .i64 (p.n : Int), .int .i64 p.l, .int .i64 (p.s : Int), .int .i64 (p.a : Int), .int .i64 (p.n : Int), .int .i64 0], z]) _ _
 repeat' first | refine wk ?_ | refine wc ?_ ?_ <;> intro h <;> try omega | fail
 refine o_box rfl rfl rfl fun b4 => ?_
 repeat' first | refine wk ?_ | refine wc ?_ ?_ <;> intro h <;> try omega | fail
 exact b_ret [] rfl (Ent.pick xpkd) ⟨rfl, rfl⟩
theorem s_lnWhole2 (z : Value) (l T x t mp o rd : Nat) (K : SK) (pg : Nat → Option (List Nat)) (sl fu : Nat) (bs : List Nat) (ho : K.o = some bs) (f n : Nat) (hf : 1 ≤ f) (hn : 1 ≤ n) (hto : f + n ≤ o) (ho64 : o ≤ 64) (h1 : f + n ≤ bs.length) (h2 : bs.length ≤ 1048576) (hrd : rd ≤ 1099511627776) :
  Spec Tryz.prog 139 [.pointer (some ⟨l, 0, none⟩), liA (Pc.mk 0 f n (-1)), z] [lnC l T x t, ixD x K.d mp o rd, amap mp kInt [], stC K pg sl fu] (fun v S => v = .tuple #[.int .i64 (nlC ((bs.drop f).take n) : Nat), .int .i64 0] ∧ S = [lnC l T x t, ixD x K.d mp o (rd + n), amap mp kInt [], stC K pg sl fu]) := by
 refine spec_of Tryz.func139 rfl Tryz.results139 Tryz.ntmps139 rfl ?_
 show Trip _ _ _ _ (numF 0 [.pointer (some ⟨l, 0, none⟩), .agg #[.int .i64 (n : Int), .int .i64 (-1), .int .i64 0, .int .i64 (f : Int), .int .i64 (n : Int), .int .i64 0], z]) _ _
 repeat' first | refine wk ?_ | refine wc ?_ ?_ <;> intro h <;> try omega | fail
 refine o_box rfl rfl rfl fun b4 => ?_
 repeat' first | refine wk ?_ | refine wc ?_ ?_ <;> intro h <;> try omega | fail
 refine c_call (s_lnIn l T x t mp o rd K pg sl fu bs ho f n hf hn hto ho64 h1 h2 hrd) rfl xpkd rfl rfl ?_
 rintro v S ⟨rfl, rfl⟩
 refine l_tell rfl ?_
 repeat' first | refine wk ?_ | refine wc ?_ ?_ <;> intro h <;> try omega | fail
 exact b_ret [lnC l T x t, ixD x K.d mp o (rd + n), amap mp kInt [], stC K pg sl fu] rfl (Ent.pick xpkd) ⟨rfl, rfl⟩
end Go.Ox
end
section
set_option maxRecDepth 100000
set_option maxHeartbeats 1600000
namespace Go.Ox
open Go Go.Proofs
theorem s_lnAll (l T s x t mp o rd no : Nat) (K : SK) (hK : K.ok) (pg : Nat → Option (List Nat)) (sl fu : Nat) (bs : List Nat) (ho : K.o = some bs) (e : Pc) (f n : Nat) (hp : pg no = some (lfB no [e, Pc.mk 0 f n (-1)])) (hps : LfOk [e, Pc.mk 0 f n (-1)]) (hn1 : 1 ≤ no) (hn2 : no < 1048576) (he : 0 ≤ e.l) (he2 : e.l ≤ 1048576) (hf : 1 ≤ f) (hn : 1 ≤ n) (hto : f + n ≤ o) (ho64 : o ≤ 64) (h1 : f + n ≤ bs.length) (h2 : bs.length ≤ 1048576) (hrd : rd ≤ 1099511627776) :
  Spec Tryz.prog 109 [.pointer (some ⟨l, 0, none⟩), .int .i64 (no : Int), .int .i64 0] [lnC l T x t, trC T K.cc s, ixD x K.d mp o rd, amap mp kInt [], stC K pg sl (fu + 256 * K.n)] (fun v S => v = .tuple #[.int .i64 (e.l + (nlC ((bs.drop f).take n) : Nat)), .int .i64 0] ∧ S = [lnC l T x t, trC T K.cc s, ixD x K.d mp o (rd + n), amap mp kInt [], stC K pg sl fu]) := by
 have hnl := nlC_le ((bs.drop f).take n)
 have hlen : ((bs.drop f).take n).length ≤ 64 := by rw [List.length_take]; omega
 refine spec_of Tryz.func109 rfl Tryz.results109 Tryz.ntmps109 rfl ?_
 repeat' first | refine wk ?_ | refine wc ?_ ?_ <;> intro h <;> try omega | fail
 refine c_call (s_tNode T s K hK pg sl fu no _ hp hps hn1 hn2) rfl xpkd rfl rfl ?_
 rintro v S ⟨a, c, rfl, rfl⟩
 refine l_tell rfl ?_
 repeat' first | refine wk ?_ | refine wc ?_ ?_ <;> intro h <;> try omega | fail
 refine o_alloc rfl rfl fun b8 => ?_
 repeat' first | refine wk ?_ | refine wc ?_ ?_ <;> intro h <;> try omega | fail
 refine c_call (s_items (own a 2 c 88 4 (pcs [e, Pc.mk 0 f n (-1)])) a 2 c [e, Pc.mk 0 f n (-1)] (Rds.own 0 rfl) rfl (by decide)) rfl xpkd rfl rfl ?_
 rintro v S ⟨a2, c2, rfl, rfl⟩
 refine l_tell rfl ?_
 repeat' first | refine wk ?_ | refine wc ?_ ?_ <;> intro h <;> try omega | fail
 refine t_pure (fun y hy => own_some (a := a2) (n := 2) (c := c2) (e := 230) (z := 6) (els := liV [e, Pc.mk 0 f n (-1)]) (S := []) (by decide) y (Ent.pick xpkd y hy)) ?_
 rintro ⟨b2, rfl, -⟩
 refine t_loop (fun mm env S => ∃ (i : Nat) (q acc : Int) (rd2 : Nat), ((i = 0 ∧ q = 0 ∧ acc = 0 ∧ rd2 = rd) ∨ (i = 1 ∧ q = 1 ∧ acc = e.l ∧ rd2 = rd) ∨ (i = 2 ∧ q = 2 ∧ acc = e.l + (nlC ((bs.drop f).take n) : Nat) ∧ rd2 = rd + n)) ∧ mm = 2 - i ∧ env = [(0, .pointer (some ⟨l, 0, none⟩)), (2, .int .i64 0), (10, .int .i64 acc), (34, .slice (some ⟨b2, 0, none⟩) 2 c2), (35, .int .i64 2), (36, .int .i64 q)] ∧ S = [own (some ⟨b2, 0, none⟩) 2 c2 230 6 (liV [e, Pc.mk 0 f n (-1)]), lnC l T x t, trC T K.cc s, ixD x K.d mp o rd2, amap mp kInt [], stC K pg sl fu]) 2 _ _ ⟨0, 0, 0, rd, .inl ⟨rfl, rfl, rfl, rfl⟩, rfl, rfl, rfl⟩ xlss (Ent.pick xpkd) ?_
 rintro mm env S ⟨i, q, acc, rd2, (⟨rfl, rfl, rfl, rfl⟩ | ⟨rfl, rfl, rfl, rfl⟩ | ⟨rfl, rfl, rfl, rfl⟩), rfl, rfl, rfl⟩
 ·repeat' first | refine wb fun _ => ?_ | refine l_qp (by exact q_indexAddr (j := 0) (z := 6) rfl rfl rfl rfl rfl rfl (by decide)) rfl ?_ | refine d_qp rfl (by exact q_indexAddr (j := 0) (z := 6) rfl rfl rfl rfl rfl rfl (by decide)) rfl ?_ | refine d_gqp rfl rfl (by exact q_indexAddr (j := 0) (z := 6) rfl rfl rfl rfl rfl rfl (by decide)) rfl ?_ | refine wk ?_ | refine wc ?_ ?_ <;> intro h <;> try omega | refine l_qs (by exact q_loadRdA (j := 0) (own_rds (a := some ⟨b2, 0, none⟩) (n := 2) (c := c2) (els := liV [e, Pc.mk 0 f n (-1)]) xfnd) rfl rfl rfl rfl rfl rfl) rfl ?_ | fail
  refine c_call (s_lnWhole1 (.pointer (some ⟨l, 0, none⟩)) (.int .i64 0) e he) rfl .nil rfl rfl ?_
  rintro v S ⟨rfl, rfl⟩
  refine l_tell rfl ?_
  repeat' first | refine wk ?_ | refine wc ?_ ?_ <;> intro h <;> try omega | fail
  rw [Int.zero_add e.l]
  exact ⟨rfl, 1, _, _, by omega, ⟨1, 1, e.l, rd2, .inr (.inl ⟨rfl, rfl, rfl, rfl⟩), rfl, rfl, rfl⟩, xlss, Ent.pick xpkd⟩
 ·repeat' first | refine wb fun _ => ?_ | refine l_qp (by exact q_indexAddr (j := 1) (z := 6) rfl rfl rfl rfl rfl rfl (by decide)) rfl ?_ | refine d_qp rfl (by exact q_indexAddr (j := 1) (z := 6) rfl rfl rfl rfl rfl rfl (by decide)) rfl ?_ | refine d_gqp rfl rfl (by exact q_indexAddr (j := 1) (z := 6) rfl rfl rfl rfl rfl rfl (by decide)) rfl ?_ | refine wk ?_ | refine wc ?_ ?_ <;> intro h <;> try omega | refine l_qs (by exact q_loadRdA (j := 1) (own_rds (a := some ⟨b2, 0, none⟩) (n := 2) (c := c2) (els := liV [e, Pc.mk 0 f n (-1)]) xfnd) rfl rfl rfl rfl rfl rfl) rfl ?_ | fail
  refine c_call (s_lnWhole2 (.int .i64 0) l T x t mp o rd2 K pg sl fu bs ho f n hf hn hto ho64 h1 h2 hrd) rfl xpkd rfl rfl ?_
  rintro v S ⟨rfl, rfl⟩
  refine l_tell rfl ?_
  repeat' first | refine wk ?_ | refine wc ?_ ?_ <;> intro h <;> try omega | fail
  exact ⟨rfl, 0, _, _, by omega, ⟨2, 2, e.l + (nlC ((bs.drop f).take n) : Nat), rd2 + n, .inr (.inr ⟨rfl, rfl, rfl, rfl⟩), rfl, rfl, rfl⟩, xlss, Ent.pick xpkd⟩
 ·repeat' first | refine wk ?_ | refine wc ?_ ?_ <;> intro h <;> try omega | fail
  exact b_ret [lnC l T x t, trC T K.cc s, ixD x K.d mp o (rd + n), amap mp kInt [], stC K pg sl fu] rfl (Ent.pick xpkd) ⟨rfl, rfl⟩
end Go.Ox
end
section
set_option maxRecDepth 100000
set_option maxHeartbeats 800000
namespace Go.Ox
open Go Go.Proofs
section
variable (l T s x t mp o rd no : Nat) (K : SK) (hK : K.ok) (pg : Nat → Option (List Nat)) (sl fu : Nat) (bs : List Nat) (ho : K.o = some bs) (e : Pc) (f n : Nat) (hp : pg no = some (lfB no [e, Pc.mk 0 f n (-1)])) (hps : LfOk [e, Pc.mk 0 f n (-1)]) (hn1 : 1 ≤ no) (hn2 : no < 1048576) (he : 0 ≤ e.l) (he2 : e.l ≤ 1048576) (hf : 1 ≤ f) (hn : 1 ≤ n) (hto : f + n ≤ o) (ho64 : o ≤ 64) (h1 : f + n ≤ bs.length) (h2 : bs.length ≤ 1048576) (hrd : rd ≤ 1099511627776)
include hK ho hp hps hn1 hn2 he he2 hf hn hto ho64 h1 h2 hrd
theorem s_lnCount :
  Spec Tryz.prog 64 [.pointer (some ⟨l, 0, none⟩), .int .i64 (no : Int)] [lnC l T x t, trC T K.cc s, ixD x K.d mp o rd, amap mp kInt [], stC K pg sl (fu + 256 * K.n)] (fun v S => v = .tuple #[.int .i64 (e.l + (nlC ((bs.drop f).take n) : Nat)), .int .i64 0] ∧ S = [lnC l T x t, trC T K.cc s, ixD x K.d mp o (rd + n), amap mp kInt [], stC K pg sl fu]) := by
 refine spec_of Tryz.func64 rfl Tryz.results64 Tryz.ntmps64 rfl ?_
 repeat' first | refine wk ?_ | refine wc ?_ ?_ <;> intro h <;> try omega | fail
 refine c_call (s_lnAll l T s x t mp o rd no K hK pg sl fu bs ho e f n hp hps hn1 hn2 he he2 hf hn hto ho64 h1 h2 hrd) rfl xpkd rfl rfl ?_
 rintro v S ⟨rfl, rfl⟩
 refine l_tell rfl ?_
 repeat' first | refine wk ?_ | refine wc ?_ ?_ <;> intro h <;> try omega | fail
 exact b_ret [lnC l T x t, trC T K.cc s, ixD x K.d mp o (rd + n), amap mp kInt [], stC K pg sl fu] rfl (Ent.pick xpkd) ⟨rfl, rfl⟩
theorem s_eLines (E V most bytes : Nat) (dt : Bool) (tv : Value) (pa : Option Addr) (pn pc cur : Nat) (su nx : Su) (ka : Option Addr) (kn kc : Nat) :
  Spec Tryz.prog 20 [.pointer (some ⟨E, 0, none⟩)] [edC E V K.d most no bytes dt, vaC V K.cc s T K.d tv (.pointer (some ⟨l, 0, none⟩)) pa pn pc cur su nx ka kn kc, lnC l T x t, trC T K.cc s, ixD x K.d mp o rd, amap mp kInt [], stC K pg sl (fu + 256 * K.n)] (fun v S => v = .tuple #[.int .i64 (e.l + (nlC ((bs.drop f).take n) : Nat)), .int .i64 0] ∧ S = [edC E V K.d most no bytes dt, vaC V K.cc s T K.d tv (.pointer (some ⟨l, 0, none⟩)) pa pn pc cur su nx ka kn kc, lnC l T x t, trC T K.cc s, ixD x K.d mp o (rd + n), amap mp kInt [], stC K pg sl fu]) := by
 refine spec_of Tryz.func20 rfl Tryz.results20 Tryz.ntmps20 rfl ?_
 repeat' first | refine wk ?_ | refine wc ?_ ?_ <;> intro h <;> try omega | fail
 refine c_call (s_eopen E V K.d most no bytes dt) rfl xpkd rfl rfl ?_
 rintro v S ⟨rfl, rfl⟩
 refine l_tell rfl ?_
 repeat' first | refine wk ?_ | refine wc ?_ ?_ <;> intro h <;> try omega | fail
 refine t_draw (id := 4) (.eval 0 true (.eval 1 true (.eval 2 true (.eval 3 false (.eval 5 true (.eval 6 true (.eval 7 true (.eval 8 false (.eff 4 [8] (.eff 9 [3] (.eval 10 true (.eval 11 true (.eff 12 [] (.eff 13 [] .fin .stop) .stop))) .stop) .stop))))))))) rfl (by kernel_rfl) ?_
 repeat' first | refine wk ?_ | refine wc ?_ ?_ <;> intro h <;> try omega | fail
 refine c_call (s_vlines V K.cc s T K.d tv _ pa pn pc cur su nx ka kn kc) rfl xpkd rfl rfl ?_
 rintro v S ⟨rfl, rfl⟩
 refine l_tell rfl ?_
 repeat' first | refine wk ?_ | refine wc ?_ ?_ <;> intro h <;> try omega | fail
 refine c_call (s_lnCount l T s x t mp o rd no K hK pg sl fu bs ho e f n hp hps hn1 hn2 he he2 hf hn hto ho64 h1 h2 hrd) rfl xpkd rfl rfl ?_
 rintro v S ⟨rfl, rfl⟩
 refine l_tell rfl ?_
 repeat' first | refine wk ?_ | refine wc ?_ ?_ <;> intro h <;> try omega | fail
 exact b_ret [edC E V K.d most no bytes dt, vaC V K.cc s T K.d tv (.pointer (some ⟨l, 0, none⟩)) pa pn pc cur su nx ka kn kc, lnC l T x t, trC T K.cc s, ixD x K.d mp o (rd + n), amap mp kInt [], stC K pg sl fu] rfl (Ent.pick xpkd) ⟨rfl, rfl⟩
end
end Go.Ox
end
section
set_option maxRecDepth 100000
set_option maxHeartbeats 800000
namespace Go.Ox
open Go Go.Proofs
theorem s_must : Spec Tryz.prog 119 [.int .i64 0] [] (fun v S => v = .tuple #[] ∧ S = []) := by
 refine spec_of Tryz.func119 rfl Tryz.results119 Tryz.ntmps119 rfl ?_
 repeat' first | refine wk ?_ | refine wc ?_ ?_ <;> intro h <;> try omega | fail
 exact b_end [] rfl (Ent.refl _) ⟨rfl, rfl⟩
theorem s_tlist2 (no b4 : Nat) (a : Option Addr) (n c : Nat) (ps : List Pc) (hl : ps.length = n) (h1 : 1 ≤ n) (h2 : n ≤ 12) :
  Spec Tryz.prog 234 [.int .i64 (no : Int), nodeV a n c, .pointer (some ⟨b4, 0, none⟩)] [cellsAt b4 83 [.slice none 0 0], own a n c 88 4 (pcs ps)] (fun v S => ∃ a' c', v = .bool true ∧ S = [own a' n c' 88 4 (pcs ps), cellsAt b4 83 [.slice a' n c'], own a n c 88 4 (pcs ps)]) := by
 refine spec_of Tryz.func234 rfl Tryz.results234 Tryz.ntmps234 rfl ?_
 show Trip _ _ _ _ (numF 0 [.int .i64 (no : Int), .agg #[.bool true, .slice a n c, .slice none 0 0], .pointer (some ⟨b4, 0, none⟩)]) _ _
 repeat' first | refine wk ?_ | refine wc ?_ ?_ <;> intro h <;> try omega | fail
 refine o_box rfl rfl rfl fun b5 => ?_
 repeat' first | refine wk ?_ | refine wc ?_ ?_ <;> intro h <;> try omega | fail
 refine l_ent (ent_nil 88 4 _) ?_
 refine c_append rfl rfl xhol (own_rds (a := a) (n := n) (c := c) (els := pcs ps) xfnd) rfl rfl rfl rfl rfl (by show (0 + n) * 32 ≤ _; omega) (by omega) rfl fun a3 c3 => ?_
 rw [Nat.zero_add, List.nil_append]
 repeat' first | refine wk ?_ | refine wc ?_ ?_ <;> intro h <;> try omega | fail
 exact b_ret [own a3 n c3 88 4 (pcs ps), cellsAt b4 83 [.slice a3 n c3], own a n c 88 4 (pcs ps)] rfl (Ent.pick xpkd) ⟨a3, c3, rfl, rfl⟩
theorem s_twalkL (T s b4 : Nat) (K : SK) (hK : K.ok) (pg : Nat → Option (List Nat)) (sl fu no : Nat) (ps : List Pc) (hp : pg no = some (lfB no ps)) (hps : LfOk ps) (hno : no < 1048576) :
  Spec Tryz.prog 233 [.pointer (some ⟨T, 0, none⟩), .int .i64 no, .int .i64 0, .func (.func 234) #[] #[.pointer (some ⟨b4, 0, none⟩)]] [trC T K.cc s, stC K pg sl (fu + 256 * K.n), cellsAt b4 83 [.slice none 0 0]]
   (fun _ S => ∃ (a' : Option Addr) (c' : Nat), S = [own a' ps.length c' 88 4 (pcs ps), cellsAt b4 83 [.slice a' ps.length c'], trC T K.cc s, stC K pg sl fu]) := by
 have hps' := hps
 obtain ⟨q1, q2, q3, q4⟩ := hps
 refine spec_of Tryz.func233 rfl Tryz.results233 Tryz.ntmps233 rfl ?_
 repeat' first | refine wk ?_ | refine wc ?_ ?_ <;> intro h <;> try omega | fail
 refine c_call (s_tread T s K hK pg sl fu no ps hp hps' hno) rfl xpkd rfl rfl ?_
 rintro v S ⟨a, c, rfl, rfl⟩
 refine l_tell rfl ?_
 repeat' first | refine wk ?_ | refine wc ?_ ?_ <;> intro h <;> try omega | fail
 refine o_alloc rfl rfl fun nb => ?_
 repeat' first | refine wk ?_ | refine wc ?_ ?_ <;> intro h <;> try omega | fail
 refine c_callV (us := []) (vs := [.int .i64 no, nodeV a ps.length c]) (cs := [.pointer (some ⟨b4, 0, none⟩)]) rfl (s_tlist2 no b4 a ps.length c ps rfl q1 q2) rfl xpkd rfl rfl ?_
 rintro v S ⟨a', c', rfl, rfl⟩
 refine l_tell rfl ?_
 repeat' first | refine wk ?_ | refine wc ?_ ?_ <;> intro h <;> try omega | fail
 refine t_loop0 ?_
 repeat' first | refine wk ?_ | refine wc ?_ ?_ <;> intro h <;> try omega | fail
 refine pt_exit (pt_exit (pb_exit ?_))
 exact b_end [own a' ps.length c' 88 4 (pcs ps), cellsAt b4 83 [.slice a' ps.length c'], trC T K.cc s, stC K pg sl fu] rfl (Ent.pick xpkd) ⟨a', c', rfl⟩
end Go.Ox
end
section
set_option maxRecDepth 100000
set_option maxHeartbeats 800000
namespace Go.Ox
open Go Go.Proofs
theorem s_tList (T s : Nat) (K : SK) (hK : K.ok) (pg : Nat → Option (List Nat)) (sl fu no : Nat) (ps : List Pc) (hp : pg no = some (lfB no ps)) (hps : LfOk ps) (hno0 : 1 ≤ no) (hno : no < 1048576) :
  Spec Tryz.prog 168 [.pointer (some ⟨T, 0, none⟩), .int .i64 no] [trC T K.cc s, stC K pg sl (fu + 256 * K.n)]
   (fun v S => ∃ (a' : Option Addr) (c' : Nat), v = .tuple #[.slice a' ps.length c', .int .i64 0] ∧ S = [own a' ps.length c' 88 4 (pcs ps), trC T K.cc s, stC K pg sl fu]) := by
 refine spec_of_d Tryz.func168 rfl Tryz.results168 Tryz.ntmps168 rfl ?_
 repeat' first | refine wk ?_ | refine wc ?_ ?_ <;> intro h <;> try omega | fail
 refine o_alloc rfl rfl fun r4 => ?_
 refine o_alloc rfl rfl fun r5 => ?_
 repeat' first | refine wk ?_ | refine wc ?_ ?_ <;> intro h <;> try omega | fail
 refine l_defer rfl rfl ?_
 repeat' first | refine wk ?_ | refine wc ?_ ?_ <;> intro h <;> try omega | fail
 refine c_call (s_twalkL T s r4 K hK pg sl fu no ps hp hps hno) rfl xpkd rfl rfl ?_
 rintro v S ⟨a, c, rfl⟩
 refine l_tell rfl ?_
 repeat' first | refine wk ?_ | refine wc ?_ ?_ <;> intro h <;> try omega | fail
 refine bd_ret (out_recov (d_232 _ _) rfl rfl ?_)
 exact out_nil [own a ps.length c 88 4 (pcs ps), trC T K.cc s, stC K pg sl fu] (.cons (.cell fun N D => c_load (b := r4) rfl xfnd rfl rfl rfl) (.cons (.cell fun N D => c_load (b := r5) rfl xfnd rfl rfl rfl) .nil)) (Ent.pick xpkd) ⟨a, c, rfl, rfl⟩
end Go.Ox
end
