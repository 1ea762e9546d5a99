/- WholeKept, part 35. No condition. -/
import Derived.Ground.SlbNamesProg
import Derived.Shelf.Bytes.SlCountOne
import Derived.Test.YtonpakokjgloaaaGreatOx04
import Derived.Test.YtonpakokjgloaaaGreatOx34
set_option linter.all false
section
set_option maxRecDepth 100000
set_option maxHeartbeats 1600000
namespace Go.Ox
open Go Go.Proofs
theorem s_vcommit (V T s tk t l root most : Nat) (K : SK) (hK : K.ok) (pg : Nat → Option (List Nat)) (sl fu : Nat) (us : List Nat) (vs : List Vn) (ps : List Pc) (pa : Option Addr) (pc cur : Nat) (su nx : Su) (ka : Option Addr) (kn kc : Nat)
  (hp : pg root = some (lfB root ps)) (hps : LfOk ps) (hr1 : 1 ≤ root) (hru : root ∈ us) (hm1 : 1 ≤ most) (hm2 : most ≤ 16)
  (hcur : cur < vs.length) (hn2 : vs.length ≤ 16) (ho : ∀ v ∈ vs, v.ok) (hv : ∀ v ∈ vs, v.r ≠ 0 → v.r ∈ us ∧ ∃ ps, pg v.r = some (lfB v.r ps) ∧ LfOk ps) (hg : su.g < 1099511627776) (hot : su.o ≤ 1048576) (htl : lenO K.t ≤ 16777216) (hu : us.length + 2 ≤ K.n) (hun : us.length ≤ 999999) (hb : ∀ k ∈ us, k + 1 ≤ K.n) (ht : tk ≤ 1000000000) (hcost : 256 * K.n * K.cap ≤ 10000000) (hnc : 256 * K.n * 16 ≤ 10000000) :
  Spec Tryz.prog 53 [.pointer (some ⟨V, 0, none⟩), .int .i64 root, .int .i64 most] [vaC V K.cc s T K.d (.pointer (some ⟨t, 0, none⟩)) (.pointer (some ⟨l, 0, none⟩)) pa vs.length pc cur su nx ka kn kc, own pa vs.length pc 182 2 (vsV vs), spC s us tk, stC K pg sl (fu + 30000000 + 256 * K.n + 256 * K.n), tlC t K.d (lenO K.t), trC T K.cc s]
   (fun v S => ∃ no b us' ks pa' pc' ka' kc', 1 ≤ no ∧ no ≤ us.length + 1 ∧ no ∉ us ∧ (∀ k, k ∈ ks ↔ vRoots ((vs.take (cur + 1) ++ [(Vn.mk root (sumN ps))]).drop (cur + 2 - most)) k) ∧ ks.length ≤ cur + 2 - (cur + 2 - most) ∧ (∀ k, k ∈ us' ↔ k ∈ no :: ks) ∧ us'.length ≤ cur + 2 - (cur + 2 - most) + 1 ∧ v = .int .i64 0 ∧ S = [vaC V K.cc s T K.d (.pointer (some ⟨t, 0, none⟩)) (.pointer (some ⟨l, 0, none⟩)) pa' (cur + 2 - (cur + 2 - most)) pc' (cur + 2 - (cur + 2 - most) - 1) ⟨su.g + 1, no, cur + 2 - (cur + 2 - most) - 1, lenO K.t, su.o⟩ su0 ka' ks.length kc', own pa' (cur + 2 - (cur + 2 - most)) pc' 182 2 (vsV ((vs.take (cur + 1) ++ [(Vn.mk root (sumN ps))]).drop (cur + 2 - most))), own ka' ks.length kc' 3 1 (natsV ks), spC s us' 0, stC K (rpg (updP pg no (some b)) (no :: ks)) (256 * (no + 1)) fu, tlC t K.d (lenO K.t), trC T K.cc s]) := by
 have hK' := hK
 obtain ⟨k1, k2, k3, k4, k5, k6⟩ := hK
 have hrb := hb root hru
 have hps1 : 1 ≤ sumN ps := by
  match ps, hps with
  | p :: r, h => have := h.2.2.1 p (List.mem_cons_self ..); simp only [sumN, List.map_cons, List.sum_cons]; have := this.2.2.1; omega
  | [], h => exact absurd h.1 (by decide)
 have hvo : (Vn.mk root (sumN ps)).ok := ⟨by show root < _; omega, hps.2.2.2, by show root = 0 ↔ sumN ps = 0; omega⟩
 have hlen : ((vs.take (cur + 1) ++ [(Vn.mk root (sumN ps))]).drop (cur + 2 - most)).length = cur + 2 - (cur + 2 - most) := by simp; omega
 have hmem : ∀ v ∈ (vs.take (cur + 1) ++ [(Vn.mk root (sumN ps))]).drop (cur + 2 - most), v ∈ vs ∨ v = (Vn.mk root (sumN ps)) := fun v hvm => by
  rcases List.mem_append.1 (List.mem_of_mem_drop hvm) with h | h
  ·exact .inl (List.mem_of_mem_take h)
  ·exact .inr (List.mem_singleton.1 h)
 have hvo2 : ∀ v ∈ (vs.take (cur + 1) ++ [(Vn.mk root (sumN ps))]).drop (cur + 2 - most), v.ok := fun v hvm => by
  rcases hmem v hvm with h | rfl
  ·exact ho v h
  ·exact hvo
 have hvv : ∀ v ∈ (vs.take (cur + 1) ++ [(Vn.mk root (sumN ps))]).drop (cur + 2 - most), v.r ≠ 0 → v.r ∈ us ∧ ∃ ps, pg v.r = some (lfB v.r ps) ∧ LfOk ps := fun v hvm h0 => by
  rcases hmem v hvm with h | rfl
  ·exact hv v h h0
  ·exact ⟨hru, ps, hp, hps⟩
 generalize hvs' : (vs.take (cur + 1) ++ [(Vn.mk root (sumN ps))]).drop (cur + 2 - most) = vs' at *
 generalize hn' : cur + 2 - (cur + 2 - most) = n' at *
 have hn'1 : 1 ≤ n' := by omega
 have hn'2 : n' ≤ 16 := by omega
 have hcst : 256 * K.n * n' ≤ 10000000 := Nat.le_trans (Nat.mul_le_mul_left _ hn'2) hnc
 refine spec_of Tryz.func53 rfl Tryz.results53 Tryz.ntmps53 rfl ?_
 repeat' first | refine wk ?_ | refine wc ?_ ?_ <;> intro h <;> try omega | fail
 refine c_call (s_tsize T s K hK' pg sl (fu + 30000000 + 256 * K.n) root ps hp hps hr1 (by omega)) rfl xpkd rfl rfl ?_
 rintro v S ⟨rfl, rfl⟩
 refine l_tell rfl ?_
 refine l_fact (p := vs.length ≤ pc) (fun h hs => by
  obtain ⟨_, _, _, _, _, ⟨_, _, q3, _⟩, _⟩ := Ent.pick (Pre := [own pa vs.length pc 182 2 (vsV vs)]) xpkd h hs
  exact q3) fun hpc => ?_
 repeat' first | refine wk ?_ | refine wc ?_ ?_ <;> intro h <;> try omega | fail
 have hcm := s_pCommit (own pa vs.length pc 182 2 (vsV vs)) pa vs.length pc cur most vs (Vn.mk root (sumN ps)) (Rds.own 0 rfl) hpc rfl hcur hn2 ho hvo hm1 hm2
 rw [hvs', hn'] at hcm
 refine c_call hcm rfl xpkd rfl rfl ?_
 rintro v S ⟨C, a', c', rfl, rfl, hC⟩
 refine l_tell rfl ?_
 repeat' first | refine wk ?_ | refine wc ?_ ?_ <;> intro h <;> try omega | fail
 refine o_alloc rfl rfl fun r9 => ?_
 repeat' first | refine wk ?_ | refine wc ?_ ?_ <;> intro h <;> try omega | fail
 refine l_ent ((Ent.pick (Pre := [stC K pg sl (fu + 30000000 + 256 * K.n), C, vaC V K.cc s T K.d (.pointer (some ⟨t, 0, none⟩)) (.pointer (some ⟨l, 0, none⟩)) pa vs.length pc cur su nx ka kn kc, spC s us tk, tlC t K.d (lenO K.t), trC T K.cc s]) xpkd).trans (ent_stless _ (fu + 64 + 256 * K.n * n' + 10000000 + 256 * K.n) (by omega) _)) ?_
 refine c_call (s_vsure C V T s tk t K hK' pg sl fu us vs' l pa vs.length pc cur su nx ka kn kc a' n' c' (n' - 1) hC hlen hn'1 hn'2 hvo2 hvv (by omega) hg hot htl hu hun hb ht hcost) rfl xpkd rfl rfl ?_
 rintro v S ⟨no, b, us', ks, pa', pc', ka', kc', n1, n2, n3, g1, g2, g3, g4, rfl, rfl⟩
 refine l_tell rfl ?_
 repeat' first | refine wk ?_ | refine wc ?_ ?_ <;> intro h <;> try omega | fail
 exact b_ret [vaC V K.cc s T K.d (.pointer (some ⟨t, 0, none⟩)) (.pointer (some ⟨l, 0, none⟩)) pa' n' pc' (n' - 1) ⟨su.g + 1, no, n' - 1, lenO K.t, su.o⟩ su0 ka' ks.length kc', own pa' n' pc' 182 2 (vsV vs'), own ka' ks.length kc' 3 1 (natsV ks), spC s us' 0, stC K (rpg (updP pg no (some b)) (no :: ks)) (256 * (no + 1)) fu, tlC t K.d (lenO K.t), trC T K.cc s] rfl (Ent.pick xpkd) ⟨no, b, us', ks, pa', pc', ka', kc', n1, n2, n3, g1, g2, g3, g4, rfl, rfl⟩
section
variable (V cc s T d : Nat) (tv lv : Value) (pa : Option Addr) (pn pc cur : Nat) (su nx : Su) (ka : Option Addr) (kn kc : Nat)
theorem s_vtail : Spec Tryz.prog 42 [.pointer (some ⟨V, 0, none⟩)] [vaC V cc s T d tv lv pa pn pc cur su nx ka kn kc] (fun v S => v = tv ∧ S = [vaC V cc s T d tv lv pa pn pc cur su nx ka kn kc]) := by
 refine spec_of Tryz.func42 rfl Tryz.results42 Tryz.ntmps42 rfl ?_
 repeat' first | refine wk ?_ | refine wc ?_ ?_ <;> intro h <;> try omega | fail
 exact b_ret _ rfl (Ent.refl _) ⟨rfl, rfl⟩
theorem s_vspace : Spec Tryz.prog 45 [.pointer (some ⟨V, 0, none⟩)] [vaC V cc s T d tv lv pa pn pc cur su nx ka kn kc] (fun v S => v = .pointer (some ⟨s, 0, none⟩) ∧ S = [vaC V cc s T d tv lv pa pn pc cur su nx ka kn kc]) := by
 refine spec_of Tryz.func45 rfl Tryz.results45 Tryz.ntmps45 rfl ?_
 repeat' first | refine wk ?_ | refine wc ?_ ?_ <;> intro h <;> try omega | fail
 exact b_ret _ rfl (Ent.refl _) ⟨rfl, rfl⟩
theorem s_vtree : Spec Tryz.prog 47 [.pointer (some ⟨V, 0, none⟩)] [vaC V cc s T d tv lv pa pn pc cur su nx ka kn kc] (fun v S => v = .pointer (some ⟨T, 0, none⟩) ∧ S = [vaC V cc s T d tv lv pa pn pc cur su nx ka kn kc]) := by
 refine spec_of Tryz.func47 rfl Tryz.results47 Tryz.ntmps47 rfl ?_
 repeat' first | refine wk ?_ | refine wc ?_ ?_ <;> intro h <;> try omega | fail
 exact b_ret _ rfl (Ent.refl _) ⟨rfl, rfl⟩
theorem s_vcache : Spec Tryz.prog 51 [.pointer (some ⟨V, 0, none⟩)] [vaC V cc s T d tv lv pa pn pc cur su nx ka kn kc] (fun v S => v = .pointer (some ⟨cc, 0, none⟩) ∧ S = [vaC V cc s T d tv lv pa pn pc cur su nx ka kn kc]) := by
 refine spec_of Tryz.func51 rfl Tryz.results51 Tryz.ntmps51 rfl ?_
 repeat' first | refine wk ?_ | refine wc ?_ ?_ <;> intro h <;> try omega | fail
 exact b_ret _ rfl (Ent.refl _) ⟨rfl, rfl⟩
theorem s_vlines : Spec Tryz.prog 63 [.pointer (some ⟨V, 0, none⟩)] [vaC V cc s T d tv lv pa pn pc cur su nx ka kn kc] (fun v S => v = lv ∧ S = [vaC V cc s T d tv lv pa pn pc cur su nx ka kn kc]) := by
 refine spec_of Tryz.func63 rfl Tryz.results63 Tryz.ntmps63 rfl ?_
 repeat' first | refine wk ?_ | refine wc ?_ ?_ <;> intro h <;> try omega | fail
 exact b_ret _ rfl (Ent.refl _) ⟨rfl, rfl⟩
end
theorem s_vsuper (V cc s T d : Nat) (tv lv : Value) (pa : Option Addr) (pn pc cur : Nat) (su nx : Su) (ka : Option Addr) (kn kc : Nat) : Spec Tryz.prog 61 [.pointer (some ⟨V, 0, none⟩)] [vaC V cc s T d tv lv pa pn pc cur su nx ka kn kc] (fun v S => v = su.v ∧ S = [vaC V cc s T d tv lv pa pn pc cur su nx ka kn kc]) := by
 refine spec_of_d Tryz.func61 rfl Tryz.results61 Tryz.ntmps61 rfl ?_
 repeat' first | refine wk ?_ | refine wc ?_ ?_ <;> intro h <;> try omega | fail
 refine o_alloc rfl rfl fun rb => ?_
 repeat' first | refine wk ?_ | refine wc ?_ ?_ <;> intro h <;> try omega | fail
 exact bd_ret (out_nil [vaC V cc s T d tv lv pa pn pc cur su nx ka kn kc] (.cons (.cell fun N D => c_loadA (b := rb) rfl xfnd rfl rfl rfl) .nil) (Ent.pick xpkd) ⟨rfl, rfl⟩)
theorem s_vpast (V cc s T d : Nat) (tv lv : Value) (pa : Option Addr) (pc cur : Nat) (vs : List Vn) (su nx : Su) (ka : Option Addr) (kn kc : Nat) (hl : vs.length ≤ 1000) : Spec Tryz.prog 55 [.pointer (some ⟨V, 0, none⟩)] [vaC V cc s T d tv lv pa vs.length pc cur su nx ka kn kc, own pa vs.length pc 182 2 (vsV vs)]
  (fun v S => ∃ a c, v = .agg #[.slice a vs.length c, .int .i64 (cur : Int)] ∧ S = [own a vs.length c 182 2 (vsV vs), vaC V cc s T d tv lv pa vs.length pc cur su nx ka kn kc, own pa vs.length pc 182 2 (vsV vs)]) := by
 refine spec_of_d Tryz.func55 rfl Tryz.results55 Tryz.ntmps55 rfl ?_
 repeat' first | refine wk ?_ | refine wc ?_ ?_ <;> intro h <;> try omega | fail
 refine o_alloc rfl rfl fun rb => ?_
 repeat' first | refine wk ?_ | refine wc ?_ ?_ <;> intro h <;> try omega | fail
 refine t_draw (id := 3) (.eval 1 true (.eval 2 true (.eval 3 true (.eval 4 true (.eval 5 false (.eval 7 true (.eval 8 true (.eval 9 true (.eval 10 true (.eval 11 false (.eff 0 [5, 11] (.eff 6 [11] (.eval 12 true (.eff 13 [] .fin .stop)) .stop) .stop))))))))))) rfl (by kernel_rfl) ?_
 repeat' first | refine wk ?_ | refine wc ?_ ?_ <;> intro h <;> try omega | fail
 refine o_buildSlice rfl rfl rfl rfl rfl rfl rfl rfl rfl rfl rfl rfl fun pb => ?_
 repeat' first | refine wk ?_ | refine wc ?_ ?_ <;> intro h <;> try omega | fail
 refine c_append rfl rfl xhol (own_rds (a := pa) (n := vs.length) (c := pc) (els := vsV vs) xfnd) rfl rfl rfl rfl rfl (by show (0 + vs.length) * 16 ≤ _; omega) (by omega) rfl fun a3 c3 => ?_
 rw [Nat.zero_add, List.nil_append]
 repeat' first | refine wk ?_ | refine wc ?_ ?_ <;> intro h <;> try omega | fail
 exact bd_ret (out_nil [own a3 vs.length c3 182 2 (vsV vs), vaC V cc s T d tv lv pa vs.length pc cur su nx ka kn kc, own pa vs.length pc 182 2 (vsV vs)] (.cons (.cell fun N D => c_loadA (b := rb) rfl xfnd rfl rfl rfl) .nil) (Ent.pick xpkd) ⟨a3, c3, rfl, rfl⟩)
end Go.Ox
end
section
set_option maxRecDepth 100000
namespace Go.Ox
open Go Go.Proofs
def edC (E V d most root bytes : Nat) (dt : Bool) : Asn :=
 cellsAt E 82 [.pointer (some ⟨V, 0, none⟩), .pointer (some ⟨d, 0, none⟩), .int .i64 (most : Int), .int .i64 (root : Int), .int .i64 (bytes : Int), .bool dt, .bool false]
section
variable (E V d most root bytes : Nat) (dt : Bool)
theorem s_eopen : Spec Tryz.prog 40 [.pointer (some ⟨E, 0, none⟩)] [edC E V d most root bytes dt] (fun v S => v = .int .i64 0 ∧ S = [edC E V d most root bytes dt]) := by
 refine spec_of Tryz.func40 rfl Tryz.results40 Tryz.ntmps40 rfl ?_
 repeat' first | refine wk ?_ | refine wc ?_ ?_ <;> intro h <;> try omega | fail
 exact b_ret _ rfl (Ent.refl _) ⟨rfl, rfl⟩
theorem s_ewithin (f n : Nat) (h : f + n ≤ bytes) (hb : bytes ≤ 1048576) : Spec Tryz.prog 41 [.pointer (some ⟨E, 0, none⟩), .int .i64 f, .int .i64 n] [edC E V d most root bytes dt] (fun v S => v = .bool true ∧ S = [edC E V d most root bytes dt]) := by
 refine spec_of Tryz.func41 rfl Tryz.results41 Tryz.ntmps41 rfl ?_
 repeat' first | refine wk ?_ | refine wc ?_ ?_ <;> intro h <;> try omega | fail
 exact b_ret _ rfl (Ent.refl _) ⟨rfl, rfl⟩
theorem s_elen : Spec Tryz.prog 13 [.pointer (some ⟨E, 0, none⟩)] [edC E V d most root bytes dt] (fun v S => v = .int .i64 bytes ∧ S = [edC E V d most root bytes dt]) := by
 refine spec_of Tryz.func13 rfl Tryz.results13 Tryz.ntmps13 rfl ?_
 repeat' first | refine wk ?_ | refine wc ?_ ?_ <;> intro h <;> try omega | fail
 refine c_call (s_eopen E V d most root bytes dt) rfl xpkd rfl rfl ?_
 rintro v S ⟨rfl, rfl⟩
 refine l_tell rfl ?_
 repeat' first | refine wk ?_ | refine wc ?_ ?_ <;> intro h <;> try omega | fail
 exact b_ret _ rfl (Ent.refl _) ⟨rfl, rfl⟩
end
theorem s_evers (E V d most root bytes cc s T dd : Nat) (dt : Bool) (tv lv : Value) (pa : Option Addr) (pc cur : Nat) (vs : List Vn) (su nx : Su) (ka : Option Addr) (kn kc : Nat) (hl : vs.length ≤ 1000) :
  Spec Tryz.prog 15 [.pointer (some ⟨E, 0, none⟩)] [edC E V d most root bytes dt, vaC V cc s T dd tv lv pa vs.length pc cur su nx ka kn kc, own pa vs.length pc 182 2 (vsV vs)]
   (fun v S => v = .tuple #[.int .i64 (vs.length : Int), .int .i64 (cur : Int)] ∧ S = [edC E V d most root bytes dt, vaC V cc s T dd tv lv pa vs.length pc cur su nx ka kn kc, own pa vs.length pc 182 2 (vsV vs)]) := by
 refine spec_of Tryz.func15 rfl Tryz.results15 Tryz.ntmps15 rfl ?_
 repeat' first | refine wk ?_ | refine wc ?_ ?_ <;> intro h <;> try omega | fail
 refine c_call (s_eopen E V d most root bytes dt) rfl xpkd rfl rfl ?_
 rintro v S ⟨rfl, rfl⟩
 refine l_tell rfl ?_
 repeat' first | refine wk ?_ | refine wc ?_ ?_ <;> intro h <;> try omega | fail
 refine c_call (s_vpast V cc s T dd tv lv pa pc cur vs su nx ka kn kc hl) rfl xpkd rfl rfl ?_
 rintro v S ⟨a, c, rfl, rfl⟩
 refine l_tell rfl ?_
 repeat' first | refine wk ?_ | refine wc ?_ ?_ <;> intro h <;> try omega | fail
 refine o_alloc rfl rfl fun rb => ?_
 repeat' first | refine wk ?_ | refine wc ?_ ?_ <;> intro h <;> try omega | fail
 refine t_draw (id := 4) (.eval 0 true (.eval 1 false (.eval 2 true (.eval 3 true (.eval 4 false (.eff 5 [4] (.eff 6 [] .fin .stop) .stop)))))) rfl (by kernel_rfl) ?_
 repeat' first | refine wk ?_ | refine wc ?_ ?_ <;> intro h <;> try omega | fail
 exact b_ret [edC E V d most root bytes dt, vaC V cc s T dd tv lv pa vs.length pc cur su nx ka kn kc, own pa vs.length pc 182 2 (vsV vs)] rfl (Ent.pick xpkd) ⟨rfl, rfl⟩
theorem s_estand (E V d most root bytes cc s T dd : Nat) (dt : Bool) (tv lv : Value) (pa : Option Addr) (pc cur : Nat) (vs : List Vn) (su nx : Su) (ka : Option Addr) (kn kc : Nat) (hl : vs.length ≤ 16) (hc : cur < vs.length) (ho : ∀ v ∈ vs, v.ok) :
  Spec Tryz.prog 54 [.pointer (some ⟨E, 0, none⟩)] [edC E V d most root bytes dt, vaC V cc s T dd tv lv pa vs.length pc cur su nx ka kn kc, own pa vs.length pc 182 2 (vsV vs)]
   (fun v S => v = .tuple #[] ∧ S = [edC E V d most (vs[cur]).r (vs[cur]).b false, vaC V cc s T dd tv lv pa vs.length pc cur su nx ka kn kc, own pa vs.length pc 182 2 (vsV vs)]) := by
 refine spec_of Tryz.func54 rfl Tryz.results54 Tryz.ntmps54 rfl ?_
 repeat' first | refine wk ?_ | refine wc ?_ ?_ <;> intro h <;> try omega | fail
 refine c_call (s_vpast V cc s T dd tv lv pa pc cur vs su nx ka kn kc (by omega)) rfl xpkd rfl rfl ?_
 rintro v S ⟨a, c, rfl, rfl⟩
 refine l_tell rfl ?_
 repeat' first | refine wk ?_ | refine wc ?_ ?_ <;> intro h <;> try omega | fail
 refine c_call (s_pNow (own a vs.length c 182 2 (vsV vs)) a vs.length c cur vs (Rds.own 0 rfl) rfl hc hl ho) rfl xpkd rfl rfl ?_
 rintro v S ⟨rfl, rfl⟩
 refine l_tell rfl ?_
 repeat' first | refine wk ?_ | refine wc ?_ ?_ <;> intro h <;> try omega | fail
 refine o_alloc rfl rfl fun rb => ?_
 repeat' first | refine wk ?_ | refine wc ?_ ?_ <;> intro h <;> try omega | fail
 refine t_draw (id := 1) (.eval 0 true (.eval 1 true (.eval 2 true (.eval 3 true (.eval 4 false (.eval 5 true (.eval 6 false (.eval 7 true (.eval 8 true (.eff 9 [6] (.eval 10 true (.eval 11 true (.eff 12 [] (.eval 13 true (.eval 14 true (.eff 15 [] .fin .stop))) .stop))) .stop)))))))))) rfl (by kernel_rfl) ?_
 repeat' first | refine wk ?_ | refine wc ?_ ?_ <;> intro h <;> try omega | fail
 exact b_end [edC E V d most (vs[cur]).r (vs[cur]).b false, vaC V cc s T dd tv lv pa vs.length pc cur su nx ka kn kc, own pa vs.length pc 182 2 (vsV vs)] rfl (Ent.pick xpkd) ⟨rfl, rfl⟩
end Go.Ox
end
section
set_option maxRecDepth 100000
namespace Go.Proofs
open Go.Shelf
end Go.Proofs
namespace Go.Ox
open Go Go.Proofs
def nlC (xs : List Nat) : Nat := Lib.countByte (Lib.bytesOf (xs.map fun x : Nat => (x : Int))) 10
theorem nlC_le (xs : List Nat) : nlC xs ≤ xs.length := by
 unfold nlC Lib.countByte
 refine Nat.le_trans List.count_le_length ?_
 simp [Lib.bytesOf]
theorem s_bCount (A B : Asn) (a : Option Addr) (n c b2 o2 d : Nat) (xs : List Nat) (hr : Rds [A] a n 1 (vb xs)) (hn : n ≠ 0) (hB : Rds [B] (some ⟨b2, o2, none⟩) 1 1 [[.int .u8 10]]) :
  Spec Tryz.prog 84 [.slice a n c, .slice (some ⟨b2, o2, none⟩) 1 d] [A, B] (fun v S => v = .int .i64 (nlC xs) ∧ S = [A, B]) := by
 intro G F w hs
 have hsB : sat G w ([B] ++ (A :: F)) := sat.ent hs (Ent.perm (List.Perm.swap B A F))
 obtain ⟨b, off, rfl⟩ := hr.some' hn _ (star_mono (Ent.left [A] (B :: F) _ hs.heap) (sub.refl _))
 have hl : (vb xs).length = n := hr.len (Ent.left [A] (B :: F) _ hs.heap)
 have hl2 : xs.length = n := by simpa [vb] using hl
 refine (Any.bytes_Count_one_at Tryz.lays13 ⟨b, off, none⟩ n c b2 o2 d (xs.map fun x : Nat => (x : Int)) 10 w (by simpa using hl2) ?_ ?_).mono fun e' w' ⟨he, hw⟩ => ?_
 ·intro i hi
  have hg : (vb xs)[i]? = some [.int .u8 (xs[i]'(by omega) : Nat)] := by
   unfold vb; rw [List.getElem?_map, List.getElem?_eq_getElem (by omega)]; rfl
  have := rds_cell (S := [A]) (F := B :: F) hs hr hg (f := 0) rfl
  rw [show off + (i * 1 + 0) = off + i by omega] at this
  have e : (⟨b, off, none⟩ : Addr).add i = ⟨b, off + i, none⟩ := by unfold Addr.add; split <;> simp_all
  rw [e, this, List.getD_eq_getElem?_getD, List.getElem?_map, List.getElem?_eq_getElem (by omega)]
  rfl
 ·have := rds_cell (S := [B]) (F := A :: F) hsB hB (j := 0) (f := 0) rfl rfl
  simpa using this
 ·subst hw
  exact ⟨_, _, he, ⟨rfl, rfl⟩, hs⟩
theorem s_eolCount (A : Asn) (a : Option Addr) (n c : Nat) (xs : List Nat) (hr : Rds [A] a n 1 (vb xs)) (hn : n ≠ 0) :
  Spec Tryz.prog 44 [.slice a n c] [A] (fun v S => v = .int .i64 (nlC xs) ∧ S = [A]) := by
 refine spec_of Tryz.func44 rfl Tryz.results44 Tryz.ntmps44 rfl ?_
 repeat' first | refine wk ?_ | refine wc ?_ ?_ <;> intro h <;> try omega | fail
 refine o_buildSlice rfl rfl rfl rfl rfl rfl rfl rfl rfl rfl rfl rfl fun pb => ?_
 repeat' first | refine wk ?_ | refine wc ?_ ?_ <;> intro h <;> try omega | fail
 refine c_call (s_bCount A _ a n c pb 0 1 xs hr hn (Rds.own 0 rfl)) rfl xpkd rfl rfl ?_
 rintro v S ⟨rfl, rfl⟩
 refine l_tell rfl ?_
 repeat' first | refine wk ?_ | refine wc ?_ ?_ <;> intro h <;> try omega | fail
 exact b_ret [A] rfl (Ent.pick xpkd) ⟨rfl, rfl⟩
end Go.Ox
end
section
set_option maxRecDepth 100000
set_option maxHeartbeats 800000
namespace Go.Ox
open Go Go.Proofs
theorem s_ereplace (A : Asn) (E V most root bytes s T tk t n m : Nat) (dt : Bool) (K : SK) (hK : K.ok) (pg : Nat → Option (List Nat)) (sl fu : Nat) (us : List Nat) (lv : Value) (pa : Option Addr) (pn pc cur : Nat) (su nx : Su) (ka : Option Addr) (kn kc : Nat)
  (a2 : Option Addr) (c2 : Nat) (ys : List Nat) (hr : Rds [A] a2 m 1 (vb ys)) (hy : ys.length = m) (hc : m ≤ c2) (h2 : 1 ≤ m) (h3 : lenO K.t + m ≤ 512 * K.n) (h4 : lenO K.t + m ≤ 16777216) (h5 : m ≤ 4096)
  (hn : n ≤ bytes) (hb : bytes ≤ 1048576) (hb2 : bytes - n + m ≤ 1048576) (ps' : List Pc)
  (hsp : ∀ (a : Option Addr) (c : Nat), Spec Tryz.prog 48 [.pointer (some ⟨T, 0, none⟩), .int .i64 (root : Int), .int .i64 0, .int .i64 (n : Int), .slice a 1 c] [trC T K.cc s, stC K pg sl (fu + m + 256 * K.n + 256 * K.n + 256 * K.n + 256 * K.n), spC s us tk, own a 1 c 88 4 (pcs [Pc.mk 1 (lenO K.t) m (nlC ys)])]
   (fun v S => ∃ no', 1 ≤ no' ∧ no' ≤ us.length + 1 ∧ no' ∉ us ∧ v = .tuple #[.int .i64 (no' : Nat), .int .i64 0] ∧ S = [trC T K.cc s, stC K (updP pg no' (some (lfB no' ps'))) sl (fu + m), spC s (no' :: us) (tk + 1), own a 1 c 88 4 (pcs [Pc.mk 1 (lenO K.t) m (nlC ys)])])) :
  Spec Tryz.prog 12 [.pointer (some ⟨E, 0, none⟩), .int .i64 0, .int .i64 (n : Int), .slice a2 m c2] [edC E V K.d most root bytes dt, vaC V K.cc s T K.d (.pointer (some ⟨t, 0, none⟩)) lv pa pn pc cur su nx ka kn kc, trC T K.cc s, stC K pg sl (fu + m + 256 * K.n + 256 * K.n + 256 * K.n + 256 * K.n), spC s us tk, tlC t K.d (lenO K.t), A]
   (fun v S => ∃ no', 1 ≤ no' ∧ no' ≤ us.length + 1 ∧ no' ∉ us ∧ v = .int .i64 0 ∧ S = [edC E V K.d most no' (bytes - n + m) true, vaC V K.cc s T K.d (.pointer (some ⟨t, 0, none⟩)) lv pa pn pc cur su nx ka kn kc, trC T K.cc s, stC { K with t := some (byO K.t ++ ys) } (updP pg no' (some (lfB no' ps'))) sl fu, spC s (no' :: us) (tk + 1), tlC t K.d (lenO K.t + m), A]) := by
 refine spec_of Tryz.func12 rfl Tryz.results12 Tryz.ntmps12 rfl ?_
 repeat' first | refine wk ?_ | refine wc ?_ ?_ <;> intro h <;> try omega | fail
 refine c_call (s_eopen E V K.d most root bytes dt) rfl xpkd rfl rfl ?_
 rintro v S ⟨rfl, rfl⟩
 refine l_tell rfl ?_
 repeat' first | refine wk ?_ | refine wc ?_ ?_ <;> intro h <;> try omega | fail
 refine c_call (s_ewithin E V K.d most root bytes dt 0 n (by omega) hb) rfl xpkd rfl rfl ?_
 rintro v S ⟨rfl, rfl⟩
 refine l_tell rfl ?_
 repeat' first | refine wk ?_ | refine wc ?_ ?_ <;> intro h <;> try omega | fail
 refine c_call (s_vtail V K.cc s T K.d _ lv pa pn pc cur su nx ka kn kc) rfl xpkd rfl rfl ?_
 rintro v S ⟨rfl, rfl⟩
 refine l_tell rfl ?_
 repeat' first | refine wk ?_ | refine wc ?_ ?_ <;> intro h <;> try omega | fail
 refine c_call (s_tlLen t K.d (lenO K.t)) rfl xpkd rfl rfl ?_
 rintro v S ⟨rfl, rfl⟩
 refine l_tell rfl ?_
 repeat' first | refine wk ?_ | refine wc ?_ ?_ <;> intro h <;> try omega | fail
 ·refine c_call (s_eolCount A a2 m c2 ys hr (by omega)) rfl xpkd rfl rfl ?_
  rintro v S ⟨rfl, rfl⟩
  refine l_tell rfl ?_
  repeat' first | refine wk ?_ | refine wc ?_ ?_ <;> intro h <;> try omega | fail
  refine o_buildSlice rfl rfl rfl rfl rfl rfl rfl rfl rfl rfl rfl rfl fun pb => ?_
  repeat' first | refine wk ?_ | refine wc ?_ ?_ <;> intro h <;> try omega | fail
  refine l_ent (ent_nil 88 4 _) ?_
  refine c_append rfl rfl xhol (own_rds (a := some ⟨pb, 0, none⟩) xfnd) rfl rfl rfl rfl rfl (by show (0 + 1) * 32 ≤ _; omega) (by omega) rfl fun a3 c3 => ?_
  rw [Nat.zero_add, List.nil_append]
  repeat' first | refine wk ?_ | refine wc ?_ ?_ <;> intro h <;> try omega | fail
  refine c_call (s_vspace V K.cc s T K.d _ lv pa pn pc cur su nx ka kn kc) rfl xpkd rfl rfl ?_
  rintro v S ⟨rfl, rfl⟩
  refine l_tell rfl ?_
  repeat' first | refine wk ?_ | refine wc ?_ ?_ <;> intro h <;> try omega | fail
  refine c_call (s_spMark s tk us) rfl xpkd rfl rfl ?_
  rintro v S ⟨tn, rfl, rfl⟩
  refine l_tell rfl ?_
  repeat' first | refine wk ?_ | refine wc ?_ ?_ <;> intro h <;> try omega | fail
  refine t_draw (id := 15) (.eval 0 true (.eval 1 true (.eval 2 true (.eval 3 false (.eval 5 true (.eval 6 true (.eval 7 true (.eval 8 false (.eval 9 true (.eval 10 true (.eval 11 true (.eff 4 [8] (.eff 12 [3] (.eval 13 true (.eval 14 true (.eval 15 true (.eff 16 [] (.eff 17 [] .fin .stop) .stop)))) .stop) .stop)))))))))))) rfl (by kernel_rfl) ?_
  repeat' first | refine wk ?_ | refine wc ?_ ?_ <;> intro h <;> try omega | fail
  refine c_call (s_vtree V K.cc s T K.d _ lv pa pn pc cur su nx ka kn kc) rfl xpkd rfl rfl ?_
  rintro v S ⟨rfl, rfl⟩
  refine l_tell rfl ?_
  repeat' first | refine wk ?_ | refine wc ?_ ?_ <;> intro h <;> try omega | fail
  refine c_call (hsp a3 c3) rfl xpkd rfl rfl ?_
  rintro v S ⟨no', n1, n2, n3, rfl, rfl⟩
  refine l_tell rfl ?_
  repeat' first | refine wk ?_ | refine wc ?_ ?_ <;> intro h <;> try omega | fail
  refine c_call (s_vtail V K.cc s T K.d _ lv pa pn pc cur su nx ka kn kc) rfl xpkd rfl rfl ?_
  rintro v S ⟨rfl, rfl⟩
  refine l_tell rfl ?_
  repeat' first | refine wk ?_ | refine wc ?_ ?_ <;> intro h <;> try omega | fail
  refine c_call (s_sttlAppend A t K hK (updP pg no' (some (lfB no' ps'))) sl fu a2 m c2 ys hr hy hc h2 h3 h4) rfl xpkd rfl rfl ?_
  rintro v S ⟨rfl, rfl⟩
  refine l_tell rfl ?_
  repeat' first | refine wk ?_ | refine wc ?_ ?_ <;> intro h <;> try omega | fail
  have e1 : ((bytes - n + m : Nat) : Int) = (bytes : Int) - n + m := by omega
  have he : edC E V K.d most no' (bytes - n + m) true = cellsAt E 82 [.pointer (some ⟨V, 0, none⟩), .pointer (some ⟨K.d, 0, none⟩), .int .i64 (most : Int), .int .i64 (no' : Int), .int .i64 ((bytes : Int) - n + m), .bool true, .bool false] := by unfold edC; rw [e1]
  refine b_ret [cellsAt E 82 [.pointer (some ⟨V, 0, none⟩), .pointer (some ⟨K.d, 0, none⟩), .int .i64 (most : Int), .int .i64 (no' : Int), .int .i64 ((bytes : Int) - n + m), .bool true, .bool false], vaC V K.cc s T K.d (.pointer (some ⟨t, 0, none⟩)) lv pa pn pc cur su nx ka kn kc, trC T K.cc s, stC { K with t := some (byO K.t ++ ys) } (updP pg no' (some (lfB no' ps'))) sl fu, spC s (no' :: us) (tk + 1), tlC t K.d (lenO K.t + m), A] rfl (Ent.pick xpkd) ⟨no', n1, n2, n3, rfl, ?_⟩
  rw [he]
 ·refine c_call (s_eolCount A a2 m c2 ys hr (by omega)) rfl xpkd rfl rfl ?_
  rintro v S ⟨rfl, rfl⟩
  refine l_tell rfl ?_
  repeat' first | refine wk ?_ | refine wc ?_ ?_ <;> intro h <;> try omega | fail
  refine o_buildSlice rfl rfl rfl rfl rfl rfl rfl rfl rfl rfl rfl rfl fun pb => ?_
  repeat' first | refine wk ?_ | refine wc ?_ ?_ <;> intro h <;> try omega | fail
  refine l_ent (ent_nil 88 4 _) ?_
  refine c_append rfl rfl xhol (own_rds (a := some ⟨pb, 0, none⟩) xfnd) rfl rfl rfl rfl rfl (by show (0 + 1) * 32 ≤ _; omega) (by omega) rfl fun a3 c3 => ?_
  rw [Nat.zero_add, List.nil_append]
  repeat' first | refine wk ?_ | refine wc ?_ ?_ <;> intro h <;> try omega | fail
  refine c_call (s_vspace V K.cc s T K.d _ lv pa pn pc cur su nx ka kn kc) rfl xpkd rfl rfl ?_
  rintro v S ⟨rfl, rfl⟩
  refine l_tell rfl ?_
  repeat' first | refine wk ?_ | refine wc ?_ ?_ <;> intro h <;> try omega | fail
  refine c_call (s_spMark s tk us) rfl xpkd rfl rfl ?_
  rintro v S ⟨tn, rfl, rfl⟩
  refine l_tell rfl ?_
  repeat' first | refine wk ?_ | refine wc ?_ ?_ <;> intro h <;> try omega | fail
  refine t_draw (id := 15) (.eval 0 true (.eval 1 true (.eval 2 true (.eval 3 false (.eval 5 true (.eval 6 true (.eval 7 true (.eval 8 false (.eval 9 true (.eval 10 true (.eval 11 true (.eff 4 [8] (.eff 12 [3] (.eval 13 true (.eval 14 true (.eval 15 true (.eff 16 [] (.eff 17 [] .fin .stop) .stop)))) .stop) .stop)))))))))))) rfl (by kernel_rfl) ?_
  repeat' first | refine wk ?_ | refine wc ?_ ?_ <;> intro h <;> try omega | fail
  refine c_call (s_vtree V K.cc s T K.d _ lv pa pn pc cur su nx ka kn kc) rfl xpkd rfl rfl ?_
  rintro v S ⟨rfl, rfl⟩
  refine l_tell rfl ?_
  repeat' first | refine wk ?_ | refine wc ?_ ?_ <;> intro h <;> try omega | fail
  refine c_call (hsp a3 c3) rfl xpkd rfl rfl ?_
  rintro v S ⟨no', n1, n2, n3, rfl, rfl⟩
  refine l_tell rfl ?_
  repeat' first | refine wk ?_ | refine wc ?_ ?_ <;> intro h <;> try omega | fail
  refine c_call (s_vtail V K.cc s T K.d _ lv pa pn pc cur su nx ka kn kc) rfl xpkd rfl rfl ?_
  rintro v S ⟨rfl, rfl⟩
  refine l_tell rfl ?_
  repeat' first | refine wk ?_ | refine wc ?_ ?_ <;> intro h <;> try omega | fail
  refine c_call (s_sttlAppend A t K hK (updP pg no' (some (lfB no' ps'))) sl fu a2 m c2 ys hr hy hc h2 h3 h4) rfl xpkd rfl rfl ?_
  rintro v S ⟨rfl, rfl⟩
  refine l_tell rfl ?_
  repeat' first | refine wk ?_ | refine wc ?_ ?_ <;> intro h <;> try omega | fail
  have e1 : ((bytes - n + m : Nat) : Int) = (bytes : Int) - n + m := by omega
  have he : edC E V K.d most no' (bytes - n + m) true = cellsAt E 82 [.pointer (some ⟨V, 0, none⟩), .pointer (some ⟨K.d, 0, none⟩), .int .i64 (most : Int), .int .i64 (no' : Int), .int .i64 ((bytes : Int) - n + m), .bool true, .bool false] := by unfold edC; rw [e1]
  refine b_ret [cellsAt E 82 [.pointer (some ⟨V, 0, none⟩), .pointer (some ⟨K.d, 0, none⟩), .int .i64 (most : Int), .int .i64 (no' : Int), .int .i64 ((bytes : Int) - n + m), .bool true, .bool false], vaC V K.cc s T K.d (.pointer (some ⟨t, 0, none⟩)) lv pa pn pc cur su nx ka kn kc, trC T K.cc s, stC { K with t := some (byO K.t ++ ys) } (updP pg no' (some (lfB no' ps'))) sl fu, spC s (no' :: us) (tk + 1), tlC t K.d (lenO K.t + m), A] rfl (Ent.pick xpkd) ⟨no', n1, n2, n3, rfl, ?_⟩
  rw [he]
end Go.Ox
end
