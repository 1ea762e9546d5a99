/- WholeKept, part 11. No condition. -/
import Derived.Test.YtonpakokjgloaaaGreatOx10
set_option linter.all false
section
set_option maxRecDepth 100000
set_option maxHeartbeats 1000000
namespace Go.Ox
open Go Go.Proofs
def stepN (m : Nat) : Nat := if m % 2 = 1 then (m / 2) ^^^ 3988292384 else m / 2
theorem stepN_lt {m : Nat} (h : m < 4294967296) : stepN m < 4294967296 := by
 unfold stepN; split
 ·exact Nat.xor_lt_two_pow (n := 32) (by omega) (by omega)
 ·omega
def stepsN : Nat → Nat → Nat
 | 0, m => m
 | k + 1, m => stepsN k (stepN m)
theorem stepsN_succ : ∀ (k m : Nat), stepsN (k + 1) m = stepN (stepsN k m) := by
 intro k
 induction k with
 | zero => intro m; rfl
 | succ k ih => intro m; show stepsN (k + 1) (stepN m) = _; rw [ih]; rfl
theorem stepsN_lt : ∀ (k : Nat) {m : Nat}, m < 4294967296 → stepsN k m < 4294967296 := by
 intro k
 induction k with
 | zero => intro m h; exact h
 | succ k ih => intro m h; exact ih (stepN_lt h)
def crcB (s b : Nat) : Nat := stepsN 8 (s ^^^ b)
def crcA (s : Nat) (bs : List Nat) : Nat := bs.foldl crcB s
theorem crcB_lt {s b : Nat} (h : s < 4294967296) (hb : b < 256) : crcB s b < 4294967296 := stepsN_lt 8 (Nat.xor_lt_two_pow (n := 32) h (by omega))
theorem crcA_lt {bs : List Nat} : ∀ {s : Nat}, s < 4294967296 → (∀ b ∈ bs, b < 256) → crcA s bs < 4294967296 := by
 induction bs with
 | nil => intro s h _; exact h
 | cons b bs ih => intro s h hb; exact ih (crcB_lt h (hb b (List.mem_cons_self ..))) fun x hx => hb x (List.mem_cons_of_mem _ hx)
def crcN (bs : List Nat) : Nat := 4294967295 ^^^ crcA 4294967295 bs
theorem crcN_lt {bs : List Nat} (hb : ∀ b ∈ bs, b < 256) : crcN bs < 4294967296 := Nat.xor_lt_two_pow (n := 32) (by omega) (crcA_lt (by omega) hb)
theorem wrap_u32 (m : Nat) (h : m < 4294967296) : IntKind.u32.wrap (m : Int) = (m : Int) := by
 have h2 : IntKind.u32.wrap (m : Int) = (m : Int) % 4294967296 := by simp [IntKind.wrap, IntKind.bits, IntKind.signed]
 rw [h2]; omega
theorem bv_nat (m : Nat) (h : m < 4294967296) : (BitVec.ofInt IntKind.u32.bits (m : Int)).toNat = m := by
 show (BitVec.ofInt 32 (m : Int)).toNat = m
 rw [BitVec.ofInt_natCast, BitVec.toNat_ofNat]; omega
section
variable {env : KEnv} {x y : Operand} {t xt yt : TypeId} {m b : Nat}
theorem q_xor32 (hx : ev env x = some (.int .u32 (m : Int))) (hy : ev env y = some (.int .u32 (b : Int))) (hm : m < 4294967296) (hb : b < 4294967296) : QP Tryz.prog env (.binOp .xor xt x y yt) t (.int .u32 ((m ^^^ b : Nat) : Int)) :=
 q_bits (op := .xor) hx hy (by simp only; rw [BitVec.toNat_xor, bv_nat m hm, bv_nat b hb, wrap_u32 _ (Nat.xor_lt_two_pow (n := 32) hm hb)])
theorem q_and32 (hx : ev env x = some (.int .u32 (m : Int))) (hy : ev env y = some (.int .u32 1)) (hm : m < 4294967296) : QP Tryz.prog env (.binOp .and xt x y yt) t (.int .u32 ((m % 2 : Nat) : Int)) :=
 q_bits (op := .and) hx hy (by
  simp only
  have := bv_nat 1 (by omega)
  simp only [Int.natCast_one] at this
  rw [BitVec.toNat_and, bv_nat m hm, this, Nat.and_one_is_mod, wrap_u32 _ (by omega)])
theorem q_shr32 (hx : ev env x = some (.int .u32 (m : Int))) (hy : ev env y = some (.int .u64 1)) : QP Tryz.prog env (.binOp .shr xt x y yt) t (.int .u32 ((m / 2 : Nat) : Int)) := by
 have := q_shr (P := Tryz.prog) (t := t) (xt := xt) (yt := yt) hx hy (by omega)
 have e : (m : Int).fdiv (2 ^ min (1 : Int).toNat IntKind.u32.bits) = ((m / 2 : Nat) : Int) := by
  have h2 : (2 : Int) ^ min (1 : Int).toNat IntKind.u32.bits = 2 := by decide
  rw [h2, Int.fdiv_eq_ediv_of_nonneg _ (by omega)]; omega
 rw [e] at this; exact this
theorem q_conv32 (hx : ev env x = some (.int .u8 (b : Int))) (hb : b < 256) : QP Tryz.prog env (.convert 5 198 x) t (.int .u32 (b : Int)) :=
 q_conv hx (ti := i5) (ti' := i198) rfl rfl rfl (wrap_u32 _ (by omega))
theorem q_comp32 (hx : ev env x = some (.int .u32 (m : Int))) (hm : m < 4294967296) : QP Tryz.prog env (.unOp .xor xt x) t (.int .u32 ((4294967295 ^^^ m : Nat) : Int)) := by
 refine .mk fun ρ h w d pos aft => ?_
 have e : IntKind.u32.wrap ((BitVec.ofInt IntKind.u32.bits ((4294967295 : Nat) : Int) ^^^ BitVec.ofInt IntKind.u32.bits (m : Int)).toNat : Int) = ((4294967295 ^^^ m : Nat) : Int) := by
  rw [BitVec.toNat_xor, bv_nat m hm, bv_nat _ (by omega), wrap_u32 _ (Nat.xor_lt_two_pow (n := 32) (by omega) hm)]
 have h4 : (if IntKind.u32.signed then (-1 : Int) else IntKind.u32.max) = ((4294967295 : Nat) : Int) := by decide
 simp only [execOp, h x _ hx, Op.unary, Op.intBits, h4, e, Sem.run_bind, Sem.run_pure, Result.andThen_ok]
end
theorem s_crcStep (m : Nat) (hm : m < 4294967296) : Spec Tryz.prog 250 [.int .u32 m] [] (fun v S => v = .int .u32 (stepN m) ∧ S = []) := by
 refine spec_of Tryz.func250 rfl Tryz.results250 Tryz.ntmps250 rfl ?_
 repeat' first | refine l_qp (by (apply q_and32; exact rfl; exact rfl; omega)) rfl ?_ | refine d_qp rfl (by (apply q_and32; exact rfl; exact rfl; omega)) rfl ?_ | refine d_gqp rfl rfl (by (apply q_and32; exact rfl; exact rfl; omega)) rfl ?_ | refine l_qp (by (apply q_shr32; exact rfl; exact rfl)) rfl ?_ | refine d_qp rfl (by (apply q_shr32; exact rfl; exact rfl)) rfl ?_ | refine d_gqp rfl rfl (by (apply q_shr32; exact rfl; exact rfl)) rfl ?_ | refine l_qp (by (apply q_xor32 (b := 3988292384); exact rfl; exact rfl; omega; omega)) rfl ?_ | refine d_qp rfl (by (apply q_xor32 (b := 3988292384); exact rfl; exact rfl; omega; omega)) rfl ?_ | refine d_gqp rfl rfl (by (apply q_xor32 (b := 3988292384); exact rfl; exact rfl; omega; omega)) rfl ?_ | refine wk ?_ | refine wc ?_ ?_ <;> intro h <;> try omega | fail
 ·refine b_ret _ rfl (Ent.refl _) ⟨?_, rfl⟩
  have : m % 2 = 1 := by omega
  show Value.int .u32 _ = _
  rw [stepN, if_pos this]
 ·refine b_ret _ rfl (Ent.refl _) ⟨?_, rfl⟩
  have : ¬ m % 2 = 1 := by omega
  show Value.int .u32 _ = _
  rw [stepN, if_neg this]
structure Part where
 a : Option Addr
 n : Nat
 c : Nat
 bs : List Nat
def Part.ok (As : List Asn) (q : Part) : Prop := Rds As q.a q.n 1 (vb q.bs) ∧ q.bs.length = q.n ∧ (∀ b ∈ q.bs, b < 256) ∧ q.n ≤ 1152921504606
theorem crcA_append (s : Nat) (a b : List Nat) : crcA s (a ++ b) = crcA (crcA s a) b := by simp [crcA]
theorem s_crcOf (As : List Asn) (pa : Option Addr) (pc : Nat) (parts : List Part) (hk : parts.length ≤ 8) (hp : ∀ q ∈ parts, q.ok As) :
  Spec Tryz.prog 175 [.slice pa parts.length pc] (own pa parts.length pc 22 1 (parts.map fun q => [.slice q.a q.n q.c]) :: As) (fun v S => v = .int .u32 (crcN (parts.flatMap Part.bs)) ∧ S = own pa parts.length pc 22 1 (parts.map fun q => [.slice q.a q.n q.c]) :: As) := by
 refine spec_of Tryz.func175 rfl Tryz.results175 Tryz.ntmps175 rfl ?_
 repeat' first | refine wk ?_ | refine wc ?_ ?_ <;> intro h <;> try omega | fail
 refine t_loop (fun m env S => ∃ (i : Nat) (s : Nat), i ≤ parts.length ∧ m = parts.length - i ∧ s < 4294967296 ∧ s = crcA 4294967295 ((parts.take i).flatMap Part.bs) ∧ env = [(3, .int .u32 (s : Int)), (8, .slice pa parts.length pc), (9, .int .i64 parts.length), (10, .int .i64 i)] ∧ S = own pa parts.length pc 22 1 (parts.map fun q => [.slice q.a q.n q.c]) :: As) parts.length _ _
   ⟨0, 4294967295, by omega, by omega, by omega, rfl, rfl, rfl⟩ (lessL.less ⟨rfl, rfl, rfl, rfl, trivial⟩) (Ent.refl _) ?_
 rintro m env S ⟨i, s, hi, rfl, hs, hse, rfl, rfl⟩
 by_cases hin : i < parts.length
 ·obtain ⟨hr, hl, hb, hn⟩ := hp parts[i] (List.getElem_mem hin)
  have hsome : ∀ h, star (own pa parts.length pc 22 1 (parts.map fun q => [.slice q.a q.n q.c]) :: As) h → ∃ b off, pa = some ⟨b, off, none⟩ := fun h hs => (Rds.own 0 rfl).some (S := []) (by omega) h ((Ent.left [_] As) h hs)
  refine t_pure hsome fun ⟨b0, off, hpa⟩ => ?_
  subst hpa
  repeat' first | refine wk ?_ | refine wc ?_ ?_ <;> intro h <;> try omega | refine l_qs (by exact q_loadRd (j := i) (f := 0) (r := [.slice parts[i].a parts[i].n parts[i].c]) (Rds.own 0 rfl) rfl (by omega) rfl rfl (by simp [List.getElem?_eq_getElem hin]) rfl) rfl ?_ | fail
  have hsome2 : parts[i].n ≠ 0 → ∀ h, star (own (some ⟨b0, off, none⟩) parts.length pc 22 1 (parts.map fun q => [.slice q.a q.n q.c]) :: As) h → ∃ b off, parts[i].a = some ⟨b, off, none⟩ := fun hne h hs => by
   obtain ⟨_, _, h3⟩ := hr h (star_drop hs)
   rcases h3 with h3 | ⟨b, off, _, _, _, ha, _⟩
   ·exact absurd h3 hne
   ·exact ⟨b, off, ha⟩
  refine t_slots [3, 8, 9, 10, 14, 15, 16] rfl ?_
  refine t_loop (fun m env S => ∃ (j : Nat) (s' : Nat), j ≤ parts[i].n ∧ m = parts[i].n - j ∧ s' < 4294967296 ∧ s' = crcA s (parts[i].bs.take j) ∧ env = [(3, .int .u32 (s' : Int)), (8, .slice (some ⟨b0, off, none⟩) parts.length pc), (9, .int .i64 parts.length), (10, .int .i64 i), (14, .slice parts[i].a parts[i].n parts[i].c), (15, .int .i64 parts[i].n), (16, .int .i64 j)] ∧ S = own (some ⟨b0, off, none⟩) parts.length pc 22 1 (parts.map fun q => [.slice q.a q.n q.c]) :: As) parts[i].n _ _
   ⟨0, s, by omega, by omega, by omega, rfl, rfl, rfl⟩ (fun _ _ q => q) (Ent.refl _) ?_
  rintro m env S ⟨j, s', hj, rfl, hs', hse', rfl, rfl⟩
  by_cases hjn : j < parts[i].n
  ·refine t_pure (hsome2 (by omega)) fun ⟨b1, off1, ha1⟩ => ?_
   have hjl : j < parts[i].bs.length := by omega
   have hbj := hb _ (List.getElem_mem hjl)
   rw [ha1] at hr ⊢
   repeat' first | refine l_qp (by (apply q_conv32; exact rfl; omega)) rfl ?_ | refine d_qp rfl (by (apply q_conv32; exact rfl; omega)) rfl ?_ | refine d_gqp rfl rfl (by (apply q_conv32; exact rfl; omega)) rfl ?_ | refine l_qp (by (apply q_xor32; exact rfl; exact rfl; omega; omega)) rfl ?_ | refine d_qp rfl (by (apply q_xor32; exact rfl; exact rfl; omega; omega)) rfl ?_ | refine d_gqp rfl rfl (by (apply q_xor32; exact rfl; exact rfl; omega; omega)) rfl ?_ | refine wk ?_ | refine wc ?_ ?_ <;> intro h <;> try omega | refine l_qs (by exact q_loadRd (j := j) (f := 0) (r := [.int .u8 (parts[i].bs[j] : Int)]) (hr.ent (Ent.drop _ _)) rfl (by omega) rfl rfl (by simp [vb, List.getElem?_eq_getElem hjl]) rfl) rfl ?_ | fail
   have hx8 : s' ^^^ parts[i].bs[j] < 4294967296 := Nat.xor_lt_two_pow (n := 32) hs' (by omega)
   refine t_slots [3, 8, 9, 10, 14, 15, 16, 24] rfl ?_
   refine t_loop (fun m env S => ∃ (q : Nat), q ≤ 8 ∧ m = 8 - q ∧ env = [(3, .int .u32 ((stepsN q (s' ^^^ parts[i].bs[j]) : Nat) : Int)), (8, .slice (some ⟨b0, off, none⟩) parts.length pc), (9, .int .i64 parts.length), (10, .int .i64 i), (14, .slice (some ⟨b1, off1, none⟩) parts[i].n parts[i].c), (15, .int .i64 parts[i].n), (16, .int .i64 j), (24, .int .i64 q)] ∧ S = own (some ⟨b0, off, none⟩) parts.length pc 22 1 (parts.map fun q => [.slice q.a q.n q.c]) :: As) 8 _ _
    ⟨0, by omega, by omega, rfl, rfl⟩ (fun _ _ q => q) (Ent.refl _) ?_
   rintro m env S ⟨q, hq, rfl, rfl, rfl⟩
   have hq8 := stepsN_lt q hx8
   by_cases hq2 : q < 8
   ·repeat' first | refine wk ?_ | refine wc ?_ ?_ <;> intro h <;> try omega | fail
    refine c_call (s_crcStep _ hq8) rfl xpkd rfl rfl ?_
    rintro v S ⟨rfl, rfl⟩
    refine l_same (own (some ⟨b0, off, none⟩) parts.length pc 22 1 (parts.map fun q => [.slice q.a q.n q.c]) :: As) rfl ?_
    repeat' first | refine wk ?_ | refine wc ?_ ?_ <;> intro h <;> try omega | fail
    exact ⟨rfl, 8 - (q + 1), _, _, (by omega), ⟨q + 1, by omega, rfl, by rw [stepsN_succ], rfl⟩, xlss, Ent.refl _⟩
   ·have e : q = 8 := by omega
    subst e
    repeat' first | refine wk ?_ | refine wc ?_ ?_ <;> intro h <;> try omega | fail
    refine ⟨rfl, parts[i].n - (j + 1), _, _, (by omega), ⟨j + 1, crcB s' parts[i].bs[j], by omega, rfl, crcB_lt hs' hbj, ?_, rfl, rfl⟩, xlss, Ent.refl _⟩
    rw [hse', List.take_add_one, List.getElem?_eq_getElem hjl, crcA_append]; rfl
  ·have e : j = parts[i].n := by omega
   subst e
   repeat' first | refine wk ?_ | refine wc ?_ ?_ <;> intro h <;> try omega | fail
   refine ⟨rfl, parts.length - (i + 1), _, _, (by omega), ⟨i + 1, s', by omega, rfl, hs', ?_, rfl, rfl⟩, xlss, Ent.refl _⟩
   rw [hse', ← hl, List.take_length, hse, ← crcA_append, List.take_add_one, List.getElem?_eq_getElem hin, List.flatMap_append]
   simp
 ·have e : i = parts.length := by omega
  subst e
  repeat' first | refine l_qp (by (apply q_comp32; exact rfl; omega)) rfl ?_ | refine d_qp rfl (by (apply q_comp32; exact rfl; omega)) rfl ?_ | refine d_gqp rfl rfl (by (apply q_comp32; exact rfl; omega)) rfl ?_ | refine wk ?_ | refine wc ?_ ?_ <;> intro h <;> try omega | fail
  refine b_ret _ rfl (Ent.refl _) ⟨?_, rfl⟩
  show Value.int .u32 _ = _
  rw [hse, List.take_length, crcN]
end Go.Ox
end
section
namespace Go.Ox
open Go Go.Proofs
def layB (bs : List Nat) (lo : Nat) (ys : List Nat) : List Nat := bs.take lo ++ ys ++ bs.drop (lo + ys.length)
theorem layB_len {bs ys : List Nat} {lo : Nat} (h : lo + ys.length ≤ bs.length) : (layB bs lo ys).length = bs.length := by
 simp only [layB, List.length_append, List.length_take, List.length_drop]; omega
theorem vb_flatten (bs : List Nat) : (vb bs).flatten = bs.map fun (b : Nat) => Value.int .u8 (b : Int) := by
 induction bs with
 | nil => rfl
 | cons b bs ih => simp [vb] at ih ⊢; rw [← ih]
theorem vb_ok (bs : List Nat) : ∀ x ∈ vb bs, x.length = 1 ∧ ∀ v ∈ x, v.oneCell' = true := by
 intro x hx
 obtain ⟨b, _, rfl⟩ := List.mem_map.1 hx
 exact ⟨rfl, fun v hv => by rw [List.mem_singleton.1 hv]; rfl⟩
theorem cells_own {b e n : Nat} {bs : List Nat} (hn : bs.length = n) (hb : n ≤ 9223372036854775807) : ∀ h, star [cellsAt b e (bs.map fun (b : Nat) => Value.int .u8 (b : Int))] h → own (some ⟨b, 0, none⟩) n n e 1 (vb bs) h := fun h hs => by
 obtain ⟨h1, _, _, s1, _, a, _⟩ := hs
 refine ⟨by simp [vb, hn], vb_ok bs, Nat.le_refl _, hb, .inr ⟨b, [], rfl, by rw [vb_flatten]; simp [hn], ?_⟩⟩
 rw [List.append_nil, vb_flatten]
 exact s1 b _ a
section ops
variable {N : Nat} {D : List Deferred} {env : KEnv} {S : List Asn} {Q : Post} {ops rest : List Oper}
variable {d : Tmp} {t : TypeId} {pos : String} {aft : Array Edge}
variable {x y : Operand} {v : Value} {xt : TypeId} {b off e n c m c2 lo : Nat} {a a2 : Option Addr} {bs ys : List Nat} {k : IntKind}
variable {ti ei : TInf}
theorem q_arrAddr {j len : Nat} (hx : ev env x = some (.pointer (some ⟨b, off, none⟩))) (hy : ev env y = some (.int k (.ofNat j))) (hT : Tab.tab Tryz.prog xt = some ti) (hd : ti.desc = .array len e) (hE : Tab.tab Tryz.prog e = some ei) (hz : ei.size = 1) (hj : j < len) :
  QP Tryz.prog env (.indexAddr xt x y) t (.pointer (some ⟨b, off + j, none⟩)) :=
 .mk fun ρ h w d pos aft => by
  have hu := r_under (P := Tryz.prog) w hT
  rw [hd] at hu
  have hs := r_size (P := Tryz.prog) w hE
  simp [execOp, h x _ hx, h y _ hy, Instr.indexAt, asIntOf, hu, hs, hz, Addr.add_lit, Instr.sureAddr]
  exact fun q => absurd hj (by omega)
def optN (env : KEnv) (dflt : Nat) : Option Operand → Option Nat
 | none => some dflt
 | some o => match ev env o with
  | some (.int .i64 (.ofNat n)) => some n
  | _ => none
theorem q_arrSlice {len lo hi : Nat} {l h' : Option Operand} (hx : ev env x = some (.pointer (some ⟨b, off, none⟩))) (hT : Tab.tab Tryz.prog xt = some ti) (hd : ti.desc = .array len e) (hE : Tab.tab Tryz.prog e = some ei) (hz : ei.size = 1) (hl : optN env 0 l = some lo) (hh : optN env len h' = some hi) (h1 : Nat.ble lo hi = true) (h2 : Nat.ble hi len = true) (h3 : Nat.blt lo len = true) :
  QP Tryz.prog env (.slice xt x l h' none) t (.slice (some ⟨b, off + lo, none⟩) (hi - lo) (len - lo)) :=
 .mk fun ρ h w d pos aft => by
  have hu := r_under (P := Tryz.prog) w hT
  rw [hd] at hu
  have hs := r_size (P := Tryz.prog) w hE
  have e1 := Nat.le_of_ble_eq_true h1
  have e2 := Nat.le_of_ble_eq_true h2
  have e3 : lo < len := Nat.le_of_ble_eq_true h3
  have key : ∀ (o : Option Operand) (dd q : Nat), optN env dd o = some q → (o = none ∧ q = dd) ∨ ∃ z, o = some z ∧ ρ z = .int .i64 (q : Int) := fun o dd q ho => by
   cases o with
   | none => left; simp [optN] at ho; exact ⟨rfl, ho.symm⟩
   | some z =>
    right
    simp only [optN] at ho
    cases hz' : ev env z with
    | none => rw [hz'] at ho; cases ho
    | some u =>
     rw [hz'] at ho
     cases u with
     | int kk i =>
      cases kk <;> cases i <;> simp at ho
      subst ho
      exact ⟨z, rfl, h z _ hz'⟩
     | _ => simp at ho
  rcases key l 0 lo hl with ⟨rfl, rfl⟩ | ⟨zl, rfl, hzl⟩ <;> rcases key h' len hi hh with ⟨rfl, rfl⟩ | ⟨zh, rfl, hzh⟩ <;>
   simp [execOp, h x _ hx, Instr.sliceAt, hu, Instr.sureAddr, Instr.sliceBounds, Instr.sliceBound, asIntOf, hs, hz, Addr.add_lit, *] <;> omega
theorem c_copy {nn cc : Nat} {fS : Asn → List Asn} (hx : ev env x = some (.slice (some ⟨b, lo, none⟩) n c)) (hy : ev env y = some (.slice a2 m c2)) (hc : Hole S (own (some ⟨b, 0, none⟩) nn cc e 1 (vb bs)) fS) (hr : Rds S a2 m 1 (vb ys)) (hm : m ≤ n) (hlo : lo + m ≤ bs.length) (hN : ok N d)
  (next : TripL Tryz.prog N ops rest D ((d, .int .i64 m) :: env) (fS (own (some ⟨b, 0, none⟩) nn cc e 1 (vb (layB bs lo ys)))) Q) : TripL Tryz.prog N ops (⟨some d, .call ⟨.builtin .copy, #[x, y], #[22, 22]⟩, t, pos, aft, none⟩ :: rest) D env S Q := by
 obtain ⟨i, hi, hp⟩ := hc.at
 refine l_op hN (fun G F act w ks => ?_) next
 have hu : Tryz.prog.underlying 22 = some (.slice 5) := Tryz.underlying22
 have h5 : (sizeOf 5).run Tryz.prog w = .ok 1 w := r_size (P := Tryz.prog) (t := 5) (i := i5) w rfl
 obtain ⟨q1, q2, q3, q4, q5⟩ := own_cells (sat_del hi ks.sat)
 obtain ⟨r1, r2, r3⟩ := hr _ (ks.sat.ent (Ent.left S F)).heap
 have hyl : ys.length = m := by simpa [vb] using r1
 have hbl : bs.length = nn := by simpa [vb] using q1
 have hmin : Nat.min m n = m := Nat.min_eq_left hm
 rcases q5 with ⟨h, _⟩ | ⟨b', sp, hb', ql, kp⟩
 ·cases h
 ·cases hb'
  have hwb : w.heap[b]? = some (.cells ((vb bs).flatten ++ sp).toArray e (0, 0)) := sat.get (S := [pt b _]) (F := del S i ++ F) (n := 0) kp rfl
  have hyone : ∀ v ∈ (vb ys).flatten, v.oneCell' = true := flatten_oneCell fun x hx => (vb_ok ys x hx).2
  have hyfl : (vb ys).flatten.length = m := by rw [vb_flatten]; simp [hyl]
  have hbfl : (vb bs).flatten.length = bs.length := by rw [vb_flatten]; simp
  have hst := run_storeCells_at (P := Tryz.prog) b lo e (vb ys).flatten 0 _ w hwb (by simp only [List.size_toArray, List.length_append, hyfl, hbfl]; omega) hyone
  simp only [Nat.add_zero] at hst
  have hl : (((vb bs).flatten ++ sp).take lo ++ (vb ys).flatten ++ ((vb bs).flatten ++ sp).drop (lo + (vb ys).flatten.length)) = (vb (layB bs lo ys)).flatten ++ sp := by
   rw [List.take_append_of_le_length (by omega), List.drop_append_of_le_length (by omega), hyfl]
   simp only [vb_flatten, layB, List.map_append, List.map_take, List.map_drop, hyl]
   simp
  have hst' : (storeCells ⟨b, lo, none⟩ (vb ys).flatten).run Tryz.prog w = .ok () (w.setRow b ((vb (layB bs lo ys)).flatten ++ sp).toArray) := by
   rw [hst]; exact congrArg (fun q => Result.ok () (w.setRow b (List.toArray q))) hl
  have hfc : (Builtin.firstCells 1 m (.slice a2 m c2)).run Tryz.prog w = .ok (vb ys).flatten.toArray w := by
   rcases r3 with r3 | ⟨b2, o2, cs2, e2, f2, ra, rb, rg⟩
   ·subst r3
    have : ys = [] := List.eq_nil_of_length_eq_zero hyl
    subst this
    cases a2 <;> simp [Builtin.firstCells, loadCells, loadCellsFrom, vb]
   ·subst ra
    exact run_firstCells_some (P := Tryz.prog) w 1 m ⟨b2, o2, none⟩ m c2 (vb ys).flatten (by rw [hyfl]; simp) (fun j u hj => by
     rw [Addr.add_lit]
     unfold heapOf at rb
     simp [World.cell?, rb, rg j u hj])
  refine ⟨w.setRow b ((vb (layB bs lo ys)).flatten ++ sp).toArray, ?_, ?_⟩
  ·have hmi : min m n = m := hmin
   simp [execOp, resolve, invoke, builtin, Builtin.copy_, ks.env.eval hx, ks.env.eval hy, run_underlying hu, Builtin.lenOf, h5, hfc, hst', goInt, hmi]
  ·have hnew := sat.put (S := [pt b _]) (F := del S i ++ F) (n := 0) (w' := w.setRow b ((vb (layB bs lo ys)).flatten ++ sp).toArray) (o' := .cells ((vb (layB bs lo ys)).flatten ++ sp).toArray e (0, 0)) kp rfl rfl rfl rfl (by
    simp only [World.setRow]
    apply Array.ext_getElem?
    intro q
    by_cases hq : q = b
    ·subst hq
     have hlt : q < w.heap.size := (Array.getElem?_eq_some_iff.1 hwb).1
     rw [Array.getElem?_setIfInBounds_self_of_lt hlt, Array.getElem?_modify, if_pos rfl, hwb]
     rfl
    ·rw [Array.getElem?_setIfInBounds_ne (fun h => hq h.symm), Array.getElem?_modify, if_neg (fun h => hq h.symm)])
   rw [← hp]
   have hll : (layB bs lo ys).length = bs.length := layB_len (by omega)
   refine sat_back hi (own_fold (sp := sp) (by simp [vb, hll, hbl]) (vb_ok _) q3 q4 ?_ hnew)
   rw [← ql]
   simp only [List.length_append, vb_flatten, List.length_map, hll]
theorem c_storeB {o nn cc v : Nat} {fS : Asn → List Asn}
  (hx : ev env x = some (.pointer (some ⟨b, o, none⟩))) (hy : ev env y = some (.int .u8 (v : Int))) (hc : Hole S (own (some ⟨b, 0, none⟩) nn cc e 1 (vb bs)) fS) (k : Nat) (ho : o = k) (hk : k < bs.length)
  (next : TripL Tryz.prog N ops rest D env (fS (own (some ⟨b, 0, none⟩) nn cc e 1 (vb (bs.set k v)))) Q) : TripL Tryz.prog N ops (⟨none, .store 5 x y, t, pos, aft, none⟩ :: rest) D env S Q := by
 refine c_storeOwn (k := k) (f := 0) (r := [.int .u8 (bs[k] : Int)]) (r' := [.int .u8 (v : Int)]) hx hy hc rfl rfl rfl (by omega) ?_ rfl ?_
 ·simp [vb, List.getElem?_eq_getElem hk]
 ·have : (vb bs).set k [.int .u8 (v : Int)] = vb (bs.set k v) := by simp [vb, List.map_set]
  rw [this]; exact next
end ops
theorem slide_in (b off c lo z : Nat) (h : lo < c) : slide (some ⟨b, off, none⟩) c lo z = some ⟨b, off + lo * z, none⟩ := by
 unfold slide; rw [if_neg (by omega)]; simp [Addr.add]
section
variable {env : KEnv} {x : Operand} {t xt e : TypeId} {ti ei : TInf} {b off n c z : Nat}
theorem q_slice2b {lo hi : Nat} (hx : ev env x = some (.slice (some ⟨b, off, none⟩) n c)) {l h' : Operand} (hl : ev env l = some (.int .i64 (.ofNat lo))) (hh : ev env h' = some (.int .i64 (.ofNat hi))) (hT : Tab.tab Tryz.prog xt = some ti) (hd : ti.desc = .slice e) (hE : Tab.tab Tryz.prog e = some ei) (hz : ei.size = z) (h0 : lo < c) (h1 : lo ≤ hi) (h2 : hi ≤ c) :
  QP Tryz.prog env (.slice xt x (some l) (some h') none) t (.slice (some ⟨b, off + lo * z, none⟩) (hi - lo) (c - lo)) := by
 have := q_slice2 (P := Tryz.prog) (t := t) hx hl hh hT hd hE hz h1 h2
 rwa [slide_in _ _ _ _ _ h0] at this
theorem q_sliceFromb {lo : Nat} (hx : ev env x = some (.slice (some ⟨b, off, none⟩) n c)) {l : Operand} (hl : ev env l = some (.int .i64 (.ofNat lo))) (hT : Tab.tab Tryz.prog xt = some ti) (hd : ti.desc = .slice e) (hE : Tab.tab Tryz.prog e = some ei) (hz : ei.size = z) (h0 : lo < c) (h1 : lo ≤ n) :
  QP Tryz.prog env (.slice xt x (some l) none none) t (.slice (some ⟨b, off + lo * z, none⟩) (n - lo) (c - lo)) := by
 have := q_sliceFrom (P := Tryz.prog) (t := t) hx hl hT hd hE hz h1
 rwa [slide_in _ _ _ _ _ h0] at this
end
end Go.Ox
end
