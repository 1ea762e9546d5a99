/- WholeKept, part 10. No condition. -/
import Derived.Test.YtonpakokjgloaaaGreatOx03
import Derived.Test.YtonpakokjgloaaaGreatOx09
set_option linter.all false
section
set_option maxRecDepth 100000
namespace Go.Ox
open Go Go.Proofs
def vb (bs : List Nat) : List (List Value) := bs.map fun (b : Nat) => [.int .u8 (b : Int)]
def leB (n wd : Nat) : List Nat := (List.range wd).map fun i => n / 256 ^ i % 256
theorem leB_len (n wd : Nat) : (leB n wd).length = wd := by simp [leB]
theorem wrap_u64 (m : Int) (h0 : 0 ≤ m) (h1 : m ≤ 18446744073709551615) : IntKind.u64.wrap m = m := by
  have h : IntKind.u64.wrap m = m % 18446744073709551616 := by simp [IntKind.wrap, IntKind.bits, IntKind.signed]
  rw [h]; exact Int.emod_eq_of_lt h0 (by omega)
theorem wrap_u8 (n : Nat) : IntKind.u8.wrap (n : Int) = ((n % 256 : Nat) : Int) := by
  have h : IntKind.u8.wrap (n : Int) = (n : Int) % 256 := by simp [IntKind.wrap, IntKind.bits, IntKind.signed]
  rw [h]; omega
theorem fdiv_shr (n i : Nat) (h : i ≤ 8) : (n : Int).fdiv (2 ^ (min (8 * (i : Int)).toNat 64)) = ((n / 256 ^ i : Nat) : Int) := by
  have h1 : min (8 * (i : Int)).toNat 64 = 8 * i := by omega
  rw [h1, Int.fdiv_eq_ediv_of_nonneg _ (Int.le_of_lt (Int.pow_pos (by decide)))]
  have h2 : (2 : Int) ^ (8 * i) = ((256 ^ i : Nat) : Int) := by
    have : (2 : Nat) ^ (8 * i) = 256 ^ i := by rw [Nat.pow_mul]
    rw [← this]; simp
  rw [h2]; rfl
section
variable {env : KEnv} {x y : Operand} {t xt yt : TypeId} {n : Nat} {i : Nat}
theorem q_convU (hx : ev env x = some (.int .i64 (8 * (i : Int)))) (h : i ≤ 8) : QP Tryz.prog env (.convert 3 291 x) t (.int .u64 (8 * (i : Int))) :=
  q_conv hx (ti := i3) (ti' := i291) rfl rfl rfl (wrap_u64 _ (by omega) (by omega))
theorem q_shrL (hx : ev env x = some (.int .i64 (n : Int))) (hy : ev env y = some (.int .u64 (8 * (i : Int)))) (h : i ≤ 8) : QP Tryz.prog env (.binOp .shr xt x y yt) t (.int .i64 ((n / 256 ^ i : Nat) : Int)) := by
  have := q_shr (P := Tryz.prog) (t := t) (xt := xt) (yt := yt) hx hy (by omega)
  rw [show IntKind.i64.bits = 64 from rfl, fdiv_shr n i h] at this
  exact this
theorem q_convB {a : Nat} (hx : ev env x = some (.int .i64 (a : Int))) : QP Tryz.prog env (.convert 3 5 x) t (.int .u8 ((a % 256 : Nat) : Int)) :=
  q_conv hx (ti := i3) (ti' := i5) rfl rfl rfl (wrap_u8 a)
end
theorem leB_set (n wd i : Nat) (hi : i < wd) (rest : List Nat) (hr : rest.length = wd - i) :
    (leB n i ++ rest).set i (n / 256 ^ i % 256) = leB n (i + 1) ++ rest.tail := by
  cases rest with
  | nil => simp at hr; omega
  | cons a r =>
    have h1 : leB n (i + 1) = leB n i ++ [n / 256 ^ i % 256] := by simp [leB, List.range_succ]
    have h2 : (leB n i).length = i := leB_len n i
    rw [h1, List.set_append_right _ _ (by omega), h2, Nat.sub_self]
    simp
theorem c_storeByte {N : Nat} {D : List Deferred} {env : KEnv} {S : List Asn} {Q : Post} {ops rest : List Oper} {t : TypeId} {pos : String} {aft : Array Edge} {x y : Operand} {b o nn cc v : Nat} {bs : List Nat} {fS : Asn → List Asn}
    (hx : ev env x = some (.pointer (some ⟨b, o, none⟩))) (hy : ev env y = some (.int .u8 (v : Int))) (hc : Hole S (own (some ⟨b, 0, none⟩) nn cc 5 1 (vb bs)) fS) (k : Nat) (ho : o = k) (hk : k < bs.length)
    (next : TripL Tryz.prog N ops rest D env (fS (own (some ⟨b, 0, none⟩) nn cc 5 1 (vb (bs.set k v)))) Q) : TripL Tryz.prog N ops (⟨none, .store 5 x y, t, pos, aft, none⟩ :: rest) D env S Q := by
  refine c_storeOwn (k := k) (f := 0) (r := [.int .u8 (bs[k] : Int)]) (r' := [.int .u8 (v : Int)]) hx hy hc rfl rfl rfl (by omega) ?_ rfl ?_
  · simp [vb, List.getElem?_eq_getElem hk]
  · have : (vb bs).set k [.int .u8 (v : Int)] = vb (bs.set k v) := by simp [vb, List.map_set]
    rw [this]; exact next
theorem s_leBytes (n wd : Nat) (h1 : 1 ≤ wd) (h2 : wd ≤ 8) (hn : n < 256 ^ wd) (hn2 : n ≤ 1152921504606846976) :
    Spec Tryz.prog 254 [.int .i64 n, .int .i64 wd] [] (fun v S => ∃ b, v = .tuple #[.slice (some ⟨b, 0, none⟩) wd wd, .int .i64 0] ∧ S = [own (some ⟨b, 0, none⟩) wd wd 5 1 (vb (leB n wd))]) := by
  have hz : n / 256 ^ wd = 0 := Nat.div_eq_of_lt hn
  refine spec_of Tryz.func254 rfl Tryz.results254 Tryz.ntmps254 rfl ?_
  repeat' first | refine l_qp (by (apply q_convU; exact rfl; omega)) rfl ?_ | refine d_qp rfl (by (apply q_convU; exact rfl; omega)) rfl ?_ | refine d_gqp rfl rfl (by (apply q_convU; exact rfl; omega)) rfl ?_ | refine l_qp (by (apply q_shrL; exact rfl; exact rfl; omega)) rfl ?_ | refine d_qp rfl (by (apply q_shrL; exact rfl; exact rfl; omega)) rfl ?_ | refine d_gqp rfl rfl (by (apply q_shrL; exact rfl; exact rfl; omega)) rfl ?_ | refine wk ?_ | refine wc ?_ ?_ <;> intro h <;> try omega | fail
  all_goals
    refine o_makeSlice rfl rfl rfl rfl rfl rfl rfl (by show wd * 1 ≤ _; omega) (by omega) rfl rfl fun b => ?_
    refine l_slots [0, 1, 29] rfl ?_
    repeat' first | refine wk ?_ | refine wc ?_ ?_ <;> intro h <;> try omega | fail
    refine t_loop (fun m env S => ∃ (i : Nat) (rest : List Nat), i ≤ wd ∧ rest.length = wd - i ∧ m = wd - i ∧ env = [(0, .int .i64 n), (6, .slice (some ⟨b, 0, none⟩) wd wd), (31, .int .i64 wd), (32, .int .i64 i)] ∧ S = [own (some ⟨b, 0, none⟩) wd wd 5 1 (vb (leB n i ++ rest))]) wd _ _
      ⟨0, List.replicate wd 0, by omega, by simp, rfl, rfl, rfl⟩ (lessL.less ⟨rfl, rfl, rfl, rfl, trivial⟩) (by simp only [vb, leB, List.range_zero, List.map_nil, List.nil_append, List.map_replicate]; exact Ent.refl _) ?_
    rintro m env S ⟨i, rest, hi, hr, rfl, rfl, rfl⟩
    repeat' first | refine l_qp (by (apply q_convU; exact rfl; omega)) rfl ?_ | refine d_qp rfl (by (apply q_convU; exact rfl; omega)) rfl ?_ | refine d_gqp rfl rfl (by (apply q_convU; exact rfl; omega)) rfl ?_ | refine l_qp (by (apply q_shrL; exact rfl; exact rfl; omega)) rfl ?_ | refine d_qp rfl (by (apply q_shrL; exact rfl; exact rfl; omega)) rfl ?_ | refine d_gqp rfl rfl (by (apply q_shrL; exact rfl; exact rfl; omega)) rfl ?_ | refine l_qp (by (apply q_convB; exact rfl)) rfl ?_ | refine d_qp rfl (by (apply q_convB; exact rfl)) rfl ?_ | refine d_gqp rfl rfl (by (apply q_convB; exact rfl)) rfl ?_ | refine wk ?_ | refine wc ?_ ?_ <;> intro h <;> try omega | fail
  all_goals first
    | (refine c_storeByte rfl rfl xhol i (by omega) (by simp [leB_len]; omega) ?_
       rw [leB_set n wd i (by omega) rest hr]
       repeat' first | refine wk ?_ | refine wc ?_ ?_ <;> intro h <;> try omega | fail
       exact ⟨rfl, _, _, _, (by omega), ⟨i + 1, rest.tail, by omega, by simp [hr]; omega, rfl, rfl, rfl⟩, lessL.less ⟨rfl, rfl, rfl, rfl, trivial⟩, Ent.refl _⟩)
    | (have e : i = wd := by omega
       subst e
       have e2 : rest = [] := List.eq_nil_of_length_eq_zero (by omega)
       subst e2
       exact b_ret _ rfl (Ent.refl _) ⟨b, rfl, by simp⟩)
def leN : List Nat → Nat
  | [] => 0
  | b :: r => b + 256 * leN r
theorem leN_lt {bs : List Nat} (h : ∀ b ∈ bs, b < 256) : leN bs < 256 ^ bs.length := by
  induction bs with
  | nil => simp [leN]
  | cons b r ih =>
    have h1 := h b (List.mem_cons_self ..)
    have h2 := ih fun x hx => h x (List.mem_cons_of_mem _ hx)
    simp only [leN, List.length_cons, Nat.pow_succ]; omega
theorem leN_append (a b : List Nat) : leN (a ++ b) = leN a + 256 ^ a.length * leN b := by
  induction a with
  | nil => simp [leN]
  | cons x a ih => simp only [List.cons_append, leN, ih, List.length_cons, Nat.pow_succ]; rw [Nat.mul_add, ← Nat.mul_assoc, Nat.mul_comm 256 (256 ^ a.length)]; omega
theorem leN_leB (n : Nat) : ∀ wd, leN (leB n wd) = n % 256 ^ wd := by
  intro wd
  induction wd with
  | zero => simp [leB, leN, Nat.mod_one]
  | succ wd ih =>
    have h1 : leB n (wd + 1) = leB n wd ++ [n / 256 ^ wd % 256] := by simp [leB, List.range_succ]
    rw [h1, leN_append, ih, leB_len]
    simp only [leN, Nat.mul_zero, Nat.add_zero]
    rw [Nat.pow_succ, Nat.mod_mul]
theorem leB_lt (n wd : Nat) : ∀ b ∈ leB n wd, b < 256 := by
  intro b hb
  obtain ⟨i, _, rfl⟩ := List.mem_map.1 hb
  exact Nat.mod_lt _ (by decide)
theorem or_add (m b : Nat) (hb : b < 256) (hm : m * 256 + b < 9223372036854775808) : IntKind.i64.wrap ((BitVec.ofInt IntKind.i64.bits ((m * 256 : Nat) : Int) ||| BitVec.ofInt IntKind.i64.bits (b : Int)).toNat : Int) = ((m * 256 + b : Nat) : Int) := by
  have h1 : (BitVec.ofInt IntKind.i64.bits ((m * 256 : Nat) : Int) ||| BitVec.ofInt IntKind.i64.bits (b : Int)).toNat = m * 256 + b := by
    show (BitVec.ofInt 64 ((m * 256 : Nat) : Int) ||| BitVec.ofInt 64 (b : Int)).toNat = m * 256 + b
    rw [BitVec.toNat_or]
    have e1 : (BitVec.ofInt 64 ((m * 256 : Nat) : Int)).toNat = m * 256 := by
      rw [BitVec.ofInt_natCast, BitVec.toNat_ofNat]; omega
    have e2 : (BitVec.ofInt 64 (b : Int)).toNat = b := by
      rw [BitVec.ofInt_natCast, BitVec.toNat_ofNat]; omega
    rw [e1, e2]
    have := Nat.shiftLeft_add_eq_or_of_lt (i := 8) (b := b) (by omega) m
    rw [Nat.shiftLeft_eq] at this
    exact this.symm
  rw [h1]
  exact wrap_in _ (by omega) (by omega)
section
variable {env : KEnv} {x y : Operand} {t xt yt : TypeId} {m b : Nat}
theorem q_shl8 (hx : ev env x = some (.int .i64 (m : Int))) (hy : ev env y = some (.int .u64 8)) (h : m * 256 ≤ 9223372036854775807) : QP Tryz.prog env (.binOp .shl xt x y yt) t (.int .i64 ((m * 256 : Nat) : Int)) := by
  have := q_shl (P := Tryz.prog) (t := t) (xt := xt) (yt := yt) hx hy (by omega)
  have e : IntKind.i64.wrap ((m : Int) * 2 ^ min (8 : Int).toNat IntKind.i64.bits) = ((m * 256 : Nat) : Int) := by
    have h2 : (2 : Int) ^ min (8 : Int).toNat IntKind.i64.bits = 256 := by decide
    rw [h2, wrap_in _ (by omega) (by omega)]; omega
  rw [e] at this; exact this
theorem q_orB (hx : ev env x = some (.int .i64 ((m * 256 : Nat) : Int))) (hy : ev env y = some (.int .i64 (b : Int))) (hb : b < 256) (hm : m * 256 + b < 9223372036854775808) : QP Tryz.prog env (.binOp .or xt x y yt) t (.int .i64 ((m * 256 + b : Nat) : Int)) :=
  q_bits (op := .or) hx hy (by simp only; rw [or_add m b hb hm])
theorem q_conv85 (hb : b < 256) (hx : ev env x = some (.int .u8 (b : Int))) : QP Tryz.prog env (.convert 5 3 x) t (.int .i64 (b : Int)) :=
  q_conv hx (ti := i5) (ti' := i3) rfl rfl rfl (wrap_in _ (by omega) (by omega))
end
theorem s_leInt (A : Asn) (a : Option Addr) (n c : Nat) (bs : List Nat) (hA : Rds [A] a n 1 (vb bs)) (hb : ∀ b ∈ bs, b < 256) (h1 : 1 ≤ n) (h2 : n ≤ 7) (hl : bs.length = n) :
    Spec Tryz.prog 277 [.slice a n c] [A] (fun v S => v = .tuple #[.int .i64 (leN bs), .int .i64 0] ∧ S = [A]) := by
  refine spec_of Tryz.func277 rfl Tryz.results277 Tryz.ntmps277 rfl ?_
  refine t_pure (hA.some (by omega)) ?_
  rintro ⟨b0, off, rfl⟩
  repeat' first | refine wk ?_ | refine wc ?_ ?_ <;> intro h <;> try omega | fail
  refine t_loop (fun m env S => ∃ (i : Nat) (p : Int), i ≤ n ∧ m = i ∧ p = (i : Int) - 1 ∧ env = [(0, .slice (some ⟨b0, off, none⟩) n c), (4, .int .i64 (leN (bs.drop i))), (5, .int .i64 p)] ∧ S = [A]) n _ _
      ⟨n, _, by omega, rfl, rfl, rfl, rfl⟩ (lessL.less ⟨rfl, by rw [List.drop_of_length_le (by omega)]; rfl, rfl, trivial⟩) (Ent.refl _) ?_
  rintro m env S ⟨i, p, hi, rfl, hp, rfl, rfl⟩
  repeat' first | refine wk ?_ | refine wc ?_ ?_ <;> intro h <;> try omega | fail
  · obtain ⟨k, rfl⟩ := Int.eq_ofNat_of_zero_le h
    have hk : k < bs.length := by omega
    have hd : bs.drop k = bs[k] :: bs.drop (k + 1) := List.drop_eq_getElem_cons hk
    have hkm : m = k + 1 := by omega
    have hbk := hb _ (List.getElem_mem hk)
    have hlt := leN_lt (bs := bs.drop (k + 1)) fun x hx => hb x (List.mem_of_mem_drop hx)
    have hpw : 256 ^ (bs.drop (k + 1)).length ≤ 256 ^ 6 := Nat.pow_le_pow_right (by decide) (by simp; omega)
    subst hkm
    repeat' first | refine l_qp (by (apply q_shl8; exact rfl; exact rfl; omega)) rfl ?_ | refine d_qp rfl (by (apply q_shl8; exact rfl; exact rfl; omega)) rfl ?_ | refine d_gqp rfl rfl (by (apply q_shl8; exact rfl; exact rfl; omega)) rfl ?_ | refine l_qp (by (apply q_orB (b := bs[k]); exact rfl; exact rfl; omega; omega)) rfl ?_ | refine d_qp rfl (by (apply q_orB (b := bs[k]); exact rfl; exact rfl; omega; omega)) rfl ?_ | refine d_gqp rfl rfl (by (apply q_orB (b := bs[k]); exact rfl; exact rfl; omega; omega)) rfl ?_ | refine l_qp (by (apply q_conv85; omega; exact rfl)) rfl ?_ | refine d_qp rfl (by (apply q_conv85; omega; exact rfl)) rfl ?_ | refine d_gqp rfl rfl (by (apply q_conv85; omega; exact rfl)) rfl ?_ | refine wk ?_ | refine wc ?_ ?_ <;> intro h <;> try omega | refine l_qs (by exact q_loadRd (j := k) (f := 0) (r := [.int .u8 (bs[k] : Int)]) (hA.up xpkd) rfl (by omega) rfl rfl (by simp [vb, List.getElem?_eq_getElem hk]) rfl) rfl ?_ | fail
    exact ⟨rfl, k, _, _, (by omega), ⟨k, _, by omega, rfl, rfl, rfl, rfl⟩, lessL.less ⟨rfl, by rw [hd]; simp only [leN]; rw [show leN (List.drop (k + 1) bs) * 256 + bs[k] = bs[k] + 256 * leN (List.drop (k + 1) bs) from by omega]; rfl, rfl, trivial⟩, Ent.refl _⟩
  · have : m = 0 := by omega
    subst this
    exact b_ret _ rfl (Ent.refl _) ⟨rfl, rfl⟩
end Go.Ox
end
section
set_option maxRecDepth 100000
namespace Go.Ox
open Go Go.Proofs
def rdL (r : Nat) (a : Option Addr) (c : Nat) (bs : List Nat) (p : Nat) : List Asn := [cellsAt r 438 [.slice a bs.length c, .int .i64 (p : Int)], own a bs.length c 5 1 (vb bs)]
theorem vb_win (bs : List Nat) (lo k : Nat) : ((vb bs).drop lo).take k = vb ((bs.drop lo).take k) := by simp [vb, List.map_drop, List.map_take]
theorem vb_app (a b : List Nat) : vb a ++ vb b = vb (a ++ b) := by simp [vb]
theorem own_le {a : Option Addr} {n c e z : Nat} {els : List (List Value)} {S : List Asn} : ∀ h, star (own a n c e z els :: S) h → els.length = n ∧ n ≤ c ∧ c ≤ 9223372036854775807 := fun h hs => by
 obtain ⟨_, _, _, _, _, ⟨q1, _, q3, q4, _⟩, _⟩ := hs; exact ⟨q1, q3, q4⟩
theorem own_le2 {B : Asn} {a : Option Addr} {n c e z : Nat} {els : List (List Value)} {S : List Asn} : ∀ h, star (B :: own a n c e z els :: S) h → els.length = n ∧ n ≤ c ∧ c ≤ 9223372036854775807 := fun h hs => own_le h (star_drop hs)
theorem s_leOn (A : Asn) (a : Option Addr) (n c : Nat) (bs : List Nat) (hA : Rds [A] a n 1 (vb bs)) (hn : n ≤ 1152921504606) (hl : bs.length = n) :
  Spec Tryz.prog 278 [.slice a n c] [A] (fun v S => ∃ r a' c', v = .pointer (some ⟨r, 0, none⟩) ∧ S = A :: rdL r a' c' bs 0) := by
 subst hl
 refine spec_of Tryz.func278 rfl Tryz.results278 Tryz.ntmps278 rfl ?_
 repeat' first | refine wk ?_ | refine wc ?_ ?_ <;> intro h <;> try omega | fail
 refine o_buildSlice rfl rfl rfl rfl rfl rfl rfl rfl rfl rfl rfl rfl fun b => ?_
 repeat' first | refine wk ?_ | refine wc ?_ ?_ <;> intro h <;> try omega | fail
 refine c_append rfl rfl xhol (hA.up xpkd) rfl rfl rfl rfl rfl (by show (0 + bs.length) * 1 ≤ _; omega) (by omega) rfl fun a' c' => ?_
 rw [Nat.zero_add, List.nil_append]
 refine l_tell rfl ?_
 repeat' first | refine wk ?_ | refine wc ?_ ?_ <;> intro h <;> try omega | fail
 refine o_box rfl rfl rfl fun r => ?_
 repeat' first | refine wk ?_ | refine wc ?_ ?_ <;> intro h <;> try omega | fail
 exact b_ret _ rfl (Ent.pick xpkd) ⟨r, a', c', rfl, rfl⟩
theorem s_rdLeft (r : Nat) (a : Option Addr) (c : Nat) (bs : List Nat) (p : Nat) (hp : p ≤ bs.length) (hl : bs.length ≤ 1152921504606) :
  Spec Tryz.prog 282 [.pointer (some ⟨r, 0, none⟩)] (rdL r a c bs p) (fun v S => v = .int .i64 ((bs.length : Int) - p) ∧ S = rdL r a c bs p) := by
 refine spec_of Tryz.func282 rfl Tryz.results282 Tryz.ntmps282 rfl ?_
 refine t_tell (S' := [_, _]) rfl ?_
 repeat' first | refine wk ?_ | refine wc ?_ ?_ <;> intro h <;> try omega | fail
 refine t_draw (.eval 0 true (.eval 1 true (.eval 2 true (.eval 3 false (.eval 4 true (.eval 5 true (.eval 6 true (.eval 7 true (.eval 8 false (.eval 9 true (.eff 10 [] .fin .stop))))))))))) rfl (by kernel_rfl) ?_
 repeat' first | refine wk ?_ | refine wc ?_ ?_ <;> intro h <;> try omega | fail
 exact b_ret _ rfl (Ent.refl _) ⟨rfl, rfl⟩
theorem s_rdNext (r : Nat) (a : Option Addr) (c : Nat) (bs : List Nat) (p n : Nat) (hp : p + n ≤ bs.length) (hl : bs.length ≤ 1152921504606) :
  Spec Tryz.prog 345 [.pointer (some ⟨r, 0, none⟩), .int .i64 n] (rdL r a c bs p) (fun v S => ∃ c', v = .tuple #[.slice (slide a c p 1) n c', .int .i64 0] ∧ S = rdL r a c bs p) := by
 refine spec_of Tryz.func345 rfl Tryz.results345 Tryz.ntmps345 rfl ?_
 refine t_pure own_le2 fun ⟨_, hc, hc2⟩ => ?_
 refine t_tell (S' := [_, _]) rfl ?_
 repeat' first | refine wk ?_ | refine wc ?_ ?_ <;> intro h <;> try omega | fail
 refine t_draw (.eval 0 true (.eval 1 true (.eval 2 true (.eval 3 true (.eval 4 false (.eval 5 true (.eval 6 true (.eval 7 true (.eval 8 true (.eval 9 false (.eval 10 true (.eval 11 true .fin)))))))))))) rfl (by kernel_rfl) ?_
 repeat' first | refine wk ?_ | refine wc ?_ ?_ <;> intro h <;> try omega | fail
 refine t_draw (.eval 0 true (.eval 1 true (.eval 2 true (.eval 3 false (.eval 4 true (.eval 5 true (.eval 6 true (.eval 7 false (.eval 8 true (.eval 9 true (.eval 10 true (.eval 11 false (.eval 12 true (.eval 13 true (.eval 14 true (.eff 15 [] (.eff 16 [] .fin .stop) .stop)))))))))))))))) rfl (by kernel_rfl) ?_
 have e : (p : Int) + (n : Int) = ((p + n : Nat) : Int) := by omega
 repeat' first | refine l_qp (by (apply q_slice2 (hi := p + n); exact rfl; exact rfl; exact congrArg (fun i => some (Value.int .i64 i)) e; exact rfl; exact rfl; exact rfl; exact rfl; omega; omega)) rfl ?_ | refine d_qp rfl (by (apply q_slice2 (hi := p + n); exact rfl; exact rfl; exact congrArg (fun i => some (Value.int .i64 i)) e; exact rfl; exact rfl; exact rfl; exact rfl; omega; omega)) rfl ?_ | refine d_gqp rfl rfl (by (apply q_slice2 (hi := p + n); exact rfl; exact rfl; exact congrArg (fun i => some (Value.int .i64 i)) e; exact rfl; exact rfl; exact rfl; exact rfl; omega; omega)) rfl ?_ | refine wk ?_ | refine wc ?_ ?_ <;> intro h <;> try omega | fail
 refine b_ret _ rfl (Ent.refl _) ⟨c - p, ?_, rfl⟩
 rw [Nat.add_sub_cancel_left]; rfl
theorem s_rdInt (r : Nat) (a : Option Addr) (c : Nat) (bs : List Nat) (p n : Nat) (hb : ∀ b ∈ bs, b < 256) (h1 : 1 ≤ n) (h2 : n ≤ 7) (hp : p + n ≤ bs.length) (hl : bs.length ≤ 1152921504606) :
  Spec Tryz.prog 279 [.pointer (some ⟨r, 0, none⟩), .int .i64 n] (rdL r a c bs p) (fun v S => v = .tuple #[.int .i64 (leN ((bs.drop p).take n)), .int .i64 0] ∧ S = rdL r a c bs (p + n)) := by
 refine spec_of Tryz.func279 rfl Tryz.results279 Tryz.ntmps279 rfl ?_
 refine t_pure own_le2 fun ⟨_, hc, hc2⟩ => ?_
 refine t_tell (S' := [_, _]) rfl ?_
 repeat' first | refine wk ?_ | refine wc ?_ ?_ <;> intro h <;> try omega | fail
 refine c_call (s_rdNext r a c bs p n hp hl) rfl xpkd rfl rfl ?_
 rintro v S ⟨c', rfl, rfl⟩
 refine l_tell rfl ?_
 repeat' first | refine wk ?_ | refine wc ?_ ?_ <;> intro h <;> try omega | fail
 have hA : Rds [own a bs.length c 5 1 (vb bs)] (slide a c p 1) n 1 (vb ((bs.drop p).take n)) := by
  rw [← vb_win]; exact (Rds.own 0 rfl).win c p n hc hp
 have hlen : ((bs.drop p).take n).length = n := by simp; omega
 refine c_call (s_leInt _ (slide a c p 1) n c' _ hA (fun b hx => hb b (List.mem_of_mem_drop (List.mem_of_mem_take hx))) h1 h2 hlen) rfl xpkd rfl rfl ?_
 rintro v S ⟨rfl, rfl⟩
 refine l_tell rfl ?_
 repeat' first | refine wk ?_ | refine wc ?_ ?_ <;> intro h <;> try omega | fail
 exact b_ret (rdL r a c bs (p + n)) rfl (by unfold rdL; rw [Int.natCast_add]; exact Ent.pick xpkd) ⟨rfl, rfl⟩
theorem s_rdTake (r : Nat) (a : Option Addr) (c : Nat) (bs : List Nat) (p n : Nat) (hp : p + n ≤ bs.length) (hl : bs.length ≤ 1152921504606) :
  Spec Tryz.prog 281 [.pointer (some ⟨r, 0, none⟩), .int .i64 n] (rdL r a c bs p) (fun v S => ∃ a' c', v = .tuple #[.slice a' n c', .int .i64 0] ∧ S = own a' n c' 5 1 (vb ((bs.drop p).take n)) :: rdL r a c bs (p + n)) := by
 refine spec_of Tryz.func281 rfl Tryz.results281 Tryz.ntmps281 rfl ?_
 refine t_pure own_le2 fun ⟨_, hc, hc2⟩ => ?_
 refine t_tell (S' := [_, _]) rfl ?_
 repeat' first | refine wk ?_ | refine wc ?_ ?_ <;> intro h <;> try omega | fail
 refine c_call (s_rdNext r a c bs p n hp hl) rfl xpkd rfl rfl ?_
 rintro v S ⟨c', rfl, rfl⟩
 refine l_tell rfl ?_
 repeat' first | refine wk ?_ | refine wc ?_ ?_ <;> intro h <;> try omega | fail
 refine o_buildSlice rfl rfl rfl rfl rfl rfl rfl rfl rfl rfl rfl rfl fun b => ?_
 repeat' first | refine wk ?_ | refine wc ?_ ?_ <;> intro h <;> try omega | fail
 have hA : Rds [own a bs.length c 5 1 (vb bs)] (slide a c p 1) n 1 (vb ((bs.drop p).take n)) := by
  rw [← vb_win]; exact (Rds.own 0 rfl).win c p n hc hp
 refine c_append rfl rfl xhol (hA.up xpkd) rfl rfl rfl rfl rfl (by show (0 + n) * 1 ≤ _; omega) (by omega) rfl fun a' c' => ?_
 rw [Nat.zero_add, List.nil_append]
 refine l_tell rfl ?_
 repeat' first | refine wk ?_ | refine wc ?_ ?_ <;> intro h <;> try omega | fail
 exact b_ret (own a' n c' 5 1 (vb ((bs.drop p).take n)) :: rdL r a c bs (p + n)) rfl (by unfold rdL; rw [Int.natCast_add]; exact Ent.pick xpkd) ⟨a', c', rfl, rfl⟩
theorem s_rdZeros (r : Nat) (a : Option Addr) (c : Nat) (bs : List Nat) (p n : Nat) (hp : p + n ≤ bs.length) (hl : bs.length ≤ 1152921504606) (hz : ∀ i, p ≤ i → i < p + n → bs[i]? = some 0) :
  Spec Tryz.prog 280 [.pointer (some ⟨r, 0, none⟩), .int .i64 n] (rdL r a c bs p) (fun v S => v = .int .i64 0 ∧ S = rdL r a c bs (p + n)) := by
 refine spec_of Tryz.func280 rfl Tryz.results280 Tryz.ntmps280 rfl ?_
 refine t_pure own_le2 fun ⟨_, hc, hc2⟩ => ?_
 refine t_tell (S' := [_, _]) rfl ?_
 repeat' first | refine wk ?_ | refine wc ?_ ?_ <;> intro h <;> try omega | fail
 refine c_call (s_rdNext r a c bs p n hp hl) rfl xpkd rfl rfl ?_
 rintro v S ⟨c', rfl, rfl⟩
 refine l_tell rfl ?_
 repeat' first | refine wk ?_ | refine wc ?_ ?_ <;> intro h <;> try omega | fail
 refine t_slots [0, 1, 18, 19, 20] rfl ?_
 have hA : Rds [own a bs.length c 5 1 (vb bs)] (slide a c p 1) n 1 (vb ((bs.drop p).take n)) := by
  rw [← vb_win]; exact (Rds.own 0 rfl).win c p n hc hp
 have hsome : n ≠ 0 → ∀ h, star [cellsAt r 438 [.slice a bs.length c, .int .i64 (p : Int)], own a bs.length c 5 1 (vb bs)] h → ∃ b off, slide a c p 1 = some ⟨b, off, none⟩ := fun hn h hs => hA.some (S := []) hn h (star_drop hs)
 refine t_loop (fun m env S => ∃ (i : Nat), i ≤ n ∧ m = n - i ∧ env = [(0, .pointer (some ⟨r, 0, none⟩)), (1, .int .i64 n), (18, .slice (slide a c p 1) n c'), (19, .int .i64 n), (20, .int .i64 i)] ∧ S = rdL r a c bs p) n _ _
   ⟨0, by omega, rfl, rfl, rfl⟩ (lessL.less ⟨rfl, rfl, rfl, rfl, rfl, trivial⟩) (Ent.refl _) ?_
 rintro m env S ⟨i, hi, rfl, rfl, rfl⟩
 refine t_tell (S' := [_, _]) rfl ?_
 by_cases hin : i < n
 ·refine t_pure (hsome (by omega)) fun ⟨b0, off, hs⟩ => ?_
  rw [hs] at hA ⊢
  have hv : bs[p + i]? = some 0 := hz _ (by omega) (by omega)
  have hg : ((bs.drop p).take n)[i]? = some 0 := by rw [List.getElem?_take, if_pos hin, List.getElem?_drop]; exact hv
  repeat' first | refine wk ?_ | refine wc ?_ ?_ <;> intro h <;> try omega | refine l_qs (by exact q_loadRd (j := i) (f := 0) (r := [.int .u8 0]) (hA.up xpkd) rfl (by omega) rfl rfl (by unfold vb; rw [List.getElem?_map, hg]; rfl) rfl) rfl ?_ | fail
  exact ⟨rfl, n - (i + 1), _, _, (by omega), ⟨i + 1, by omega, rfl, rfl, rfl⟩, lessL.less ⟨rfl, rfl, rfl, rfl, rfl, trivial⟩, Ent.refl _⟩
 ·repeat' first | refine wk ?_ | refine wc ?_ ?_ <;> intro h <;> try omega | fail
  exact b_ret (rdL r a c bs (p + n)) rfl (by unfold rdL; rw [Int.natCast_add]; exact Ent.pick xpkd) ⟨rfl, rfl⟩
end Go.Ox
end
