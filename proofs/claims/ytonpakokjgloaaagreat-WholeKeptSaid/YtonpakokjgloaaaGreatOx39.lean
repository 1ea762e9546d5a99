/- WholeKept, part 39. No condition. -/
import Derived.LoopN
import Derived.Test.YtonpakokjgloaaaGreatOx16
import Derived.Test.YtonpakokjgloaaaGreatOx19
import Derived.Test.YtonpakokjgloaaaGreatOx23
import Derived.Test.YtonpakokjgloaaaGreatOx31
set_option linter.all false
section
namespace Go.Ox
open Go Go.Proofs
section
variable {P : Program} {N : Nat} {D : List Deferred} {env : KEnv} {S : List Asn} {Q : Post} {cd : Code}
structure Rnd (P : Program) (N : Nat) (c : Code) (Q : Post) (n : Nat) (D : List Deferred) (env : KEnv) (S : List Asn) : Prop where
 run : ∀ G F a w, Holds N G F D env S a w → Code.rounds P c (lift N G F Q) n a w
theorem rnd_succ {n : Nat} (h : Trip P N cd D env S (thenP (fun D env S => Rnd P N cd Q n D env S) Q)) : Rnd P N cd Q (n + 1) D env S :=
 ⟨fun G F a w k => Code.wp_mono (fun e a w q => by
   obtain ⟨D', env', S', q, k'⟩ := q
   cases e with
   | normal => exact q.run G F a w k'
   | exit i => exact ⟨D', env', S', q, k'⟩
   | goto i => exact ⟨D', env', S', q, k'⟩
   | ret => exact ⟨D', env', S', q, k'⟩
   | panic i => exact ⟨D', env', S', q, k'⟩
   | outgrown => exact ⟨D', env', S', q, k'⟩) (h.run G F a w k)⟩
theorem t_rounds (n : Nat) (h : Rnd P N cd Q n D env S) : Trip P N (.loop cd) D env S Q :=
 ⟨fun G F a w k => wp_loop_rounds n (h.run G F a w k)⟩
end
theorem own_at {S S' : List Asn} {a : Option Addr} {n c e z : Nat} {els : List (List Value)} (hc : CAt S (own a n c e z els) (own a n c e z els) S') (hn : 1 ≤ n) : ∀ h, star S h → ∃ b, a = some ⟨b, 0, none⟩ := fun h hs => by
 obtain ⟨i, hi, _⟩ := hc.at
 obtain ⟨b, hb, _⟩ := own_some hn h (star_perm (perm_del hi) hs)
 exact ⟨b, hb⟩
theorem Spec.someB {P : Program} {f : FuncId} {args : List Value} {Pre : List Asn} {R R' : Value → List Asn → Prop} (h : Spec P f args Pre R)
  (hr : ∀ v S, R v S → ∃ p : Prop, (∀ h, star S h → p) ∧ (p → ∃ S', Ent S S' ∧ R' v S')) : Spec P f args Pre R' := fun G F w k => by
 refine (h G F w k).mono fun _ _ ⟨v, S', e, r, s⟩ => ?_
 obtain ⟨p, h1, h2⟩ := hr v S' r
 obtain ⟨S2, h3, h4⟩ := h2 (h1 _ (Ent.left S' F _ s.heap))
 exact ⟨v, S2, e, h4, s.ent (h3.frame F)⟩
section ops
variable {P : Program} {N : Nat} {D : List Deferred} {env : KEnv} {S S' : List Asn} {Q : Post} {ops rest : List Oper}
variable {d : Tmp} {t : TypeId} {pos : String} {aft : Array Edge}
variable {x y : Operand} {v : Value} {xt yt : TypeId} {b o e n c m c2 z : Nat} {a a2 : Option Addr} {els ys : List (List Value)}
variable [T : Tab P] {ti ei : TInf}
theorem c_loadO (hx : ev env x = some (.pointer (some ⟨b, o, none⟩))) (hc : CAt S (own (some ⟨b, 0, none⟩) n c e z els) (own (some ⟨b, 0, none⟩) n c e z els) S') (hT : T.tab xt = some ti) (ha : ti.agg = false) (hv : nth els.flatten o = some v) : QS P N D env S (.load xt x) t v := by
 obtain ⟨i, hi, _⟩ := hc.at
 refine .mk fun G F a w k d pos aft => ?_
 obtain ⟨q1, q2, q3, q4, q5⟩ := own_cells (sat_del hi k.sat)
 have hg := r_agg (P := P) w hT
 rw [ha] at hg
 rw [nth_get] at hv
 have hlt := (List.getElem?_eq_some_iff.1 hv).1
 have hcell : w.cell? ⟨b, o, none⟩ = some v := by
  rcases q5 with ⟨h, _⟩ | ⟨b', sp, hb', ql, kp⟩
  ·cases h
  ·cases hb'
   have hwb : w.heap[b]? = some (.cells (els.flatten ++ sp).toArray e (0, 0)) := sat.get (S := [pt b _]) (F := del S i ++ F) (n := 0) kp rfl
   simp [World.cell?, hwb, List.getElem?_append_left hlt, hv]
 simp [execOp, k.env.eval hx, Instr.loadAt, Instr.sureAddr, loadVar, hg, hcell]
theorem c_loadOA {r : List Value} (hx : ev env x = some (.pointer (some ⟨b, o, none⟩))) (hc : CAt S (own (some ⟨b, 0, none⟩) n c e z els) (own (some ⟨b, 0, none⟩) n c e z els) S') (hT : T.tab xt = some ti) (ha : ti.agg = true) (hv : slc els.flatten o ti.size = some r) : QS P N D env S (.load xt x) t (.agg r.toArray) := by
 obtain ⟨i, hi, _⟩ := hc.at
 refine .mk fun G F a w k d pos aft => ?_
 obtain ⟨q1, q2, q3, q4, q5⟩ := own_cells (sat_del hi k.sat)
 have hg := r_agg (P := P) w hT
 have hs := r_size (P := P) w hT
 rw [ha] at hg
 have hrun := run_loadCells_list (P := P) w ⟨b, o, none⟩ r (fun q u hq => by
  rw [Addr.add_lit]
  have hlq := slc_get hv q u hq
  have hlt := (List.getElem?_eq_some_iff.1 hlq).1
  rcases q5 with ⟨h, _⟩ | ⟨b', sp, hb', ql, kp⟩
  ·cases h
  ·cases hb'
   have hwb : w.heap[b]? = some (.cells (els.flatten ++ sp).toArray e (0, 0)) := sat.get (S := [pt b _]) (F := del S i ++ F) (n := 0) kp rfl
   simp [World.cell?, hwb, List.getElem?_append_left hlt, hlq])
 rw [(slc_spec hv).2] at hrun
 simp [execOp, k.env.eval hx, Instr.loadAt, Instr.sureAddr, loadVar, hg, hs, hrun]
theorem c_appendS {f : Asn → List Asn} (hx : ev env x = some (.slice a n c)) (hy : ev env y = some (.slice a2 m c2)) (hc : Hole S (own a n c e z els) f) (hr : Rds S a2 m z ys) (hm1 : 1 ≤ n + m) (hT : T.tab xt = some ti) (hd : ti.desc = .slice e) (hE : T.tab e = some ei) (hz : ei.size = z) (hzl : ei.zero.length = z)
  (hb : (n + m) * ei.bytes ≤ 140737488355328) (hm : n + m ≤ 4611686018427387904) (hN : ok N d)
  (next : ∀ b' c', TripL P N ops rest D ((d, .slice (some ⟨b', 0, none⟩) (n + m) c') :: env) (f (own (some ⟨b', 0, none⟩) (n + m) c' e z (els ++ ys))) Q) : TripL P N ops (⟨some d, .call ⟨.builtin .append, #[x, y], #[xt, xt]⟩, t, pos, aft, none⟩ :: rest) D env S Q := by
 refine c_append hx hy hc hr hT hd hE hz hzl hb hm hN fun a' c' => ?_
 obtain ⟨i, hi, hp⟩ := hc.at
 have hq : at? (f (own a' (n + m) c' e z (els ++ ys))) i = some (own a' (n + m) c' e z (els ++ ys)) := by
  rw [← hp]
  clear hp hc hr next
  induction S generalizing i with
  | nil => cases hi
  | cons A S ih => cases i with
   | zero => rfl
   | succ i => exact ih i hi
 refine l_fact (p := ∃ b', a' = some ⟨b', 0, none⟩) (fun h hs => ?_) ?_
 ·obtain ⟨b', hb', _⟩ := own_some hm1 h (star_perm (perm_del hq) hs)
  exact ⟨b', hb'⟩
 ·rintro ⟨b', rfl⟩
  exact next b' c'
theorem c_appendN (hx : ev env x = some (.slice none 0 0)) (hy : ev env y = some (.slice a2 m c2)) (hr : Rds S a2 m z ys) (hm1 : 1 ≤ m) (hT : T.tab xt = some ti) (hd : ti.desc = .slice e) (hE : T.tab e = some ei) (hz : ei.size = z) (hzl : ei.zero.length = z)
  (hb : m * ei.bytes ≤ 140737488355328) (hm : m ≤ 4611686018427387904) (hN : ok N d)
  (next : ∀ b' c', TripL P N ops rest D ((d, .slice (some ⟨b', 0, none⟩) m c') :: env) (own (some ⟨b', 0, none⟩) m c' e z ys :: S) Q) : TripL P N ops (⟨some d, .call ⟨.builtin .append, #[x, y], #[xt, xt]⟩, t, pos, aft, none⟩ :: rest) D env S Q := by
 refine l_ent (ent_nil e z S) ?_
 refine c_appendS (a := none) (n := 0) (c := 0) (els := []) hx hy .here (hr.ent (Ent.drop _ _)) (by omega) hT hd hE hz hzl (by rw [Nat.zero_add]; exact hb) (by omega) hN fun b' c' => ?_
 rw [Nat.zero_add, List.nil_append]
 exact next b' c'
end ops
end Go.Ox
end
section
namespace Go.Ox
open Go Go.Proofs
def scC (p : Pc) : List Value := [.int .i64 (p.s : Int), .int .i64 (p.a : Int), .int .i64 (p.n : Int)]
def scV (ps : List Pc) : List (List Value) := ps.map scC
end Go.Ox
end
section
set_option maxRecDepth 100000
set_option maxHeartbeats 800000
namespace Go.Ox
open Go Go.Proofs
def ScE (p : Pc) : Prop := p.s ≤ 2 ∧ 1 ≤ p.n ∧ p.a + p.n ≤ 1073741824
def ScOk (ps : List Pc) : Prop := (∀ p ∈ ps, ScE p) ∧ ps.length ≤ 100000 ∧ sumN ps ≤ 1073741824
theorem scV_get {ps : List Pc} {i : Nat} (h : i < ps.length) : (scV ps)[i]? = some (scC ps[i]) := by
 unfold scV; rw [List.getElem?_map, List.getElem?_eq_getElem h]; rfl
theorem sumN_take {ps : List Pc} {i : Nat} (h : i < ps.length) : sumN (ps.take (i + 1)) = sumN (ps.take i) + (ps[i]).n := by
 rw [List.take_succ_eq_append_getElem h, sumN_append]; rfl
theorem s_scMay (A : Asn) (a : Option Addr) (n c : Nat) (ps : List Pc) (hA : Rds [A] a n 3 (scV ps)) (hl : ps.length = n) (hp : ScOk ps) :
  Spec Tryz.prog 238 [.slice a n c] [A] (fun v S => v = .bool true ∧ S = [A]) := by
 obtain ⟨p1, p2, p3⟩ := hp
 refine spec_of Tryz.func238 rfl Tryz.results238 Tryz.ntmps238 rfl ?_
 repeat' first | refine wk ?_ | refine wc ?_ ?_ <;> intro h <;> try omega | fail
 refine t_loop (fun mm env S => ∃ i : Nat, i ≤ n ∧ mm = n - i ∧ env = [(3, .int .i64 (1099511627776 - (sumN (ps.take i) : Int))), (6, .slice a n c), (7, .int .i64 (n : Int)), (8, .int .i64 (i : Int))] ∧ S = [A]) n _ _ ⟨0, by omega, by omega, rfl, rfl⟩ xlss (Ent.refl _) ?_
 rintro mm env S ⟨i, hi, rfl, rfl, rfl⟩
 by_cases hin : i < n
 ·have hin' : i < ps.length := by omega
  refine t_pure (fun y hy => hA.some' (by omega) y hy) ?_
  rintro ⟨b, off, rfl⟩
  obtain ⟨g1, g2, g3⟩ := p1 _ (List.getElem_mem hin')
  have hsu := sumN_take hin'
  have hle := sumN_take_le ps (i + 1)
  have hget : (scV ps)[i]? = some [.int .i64 ((ps[i]).s : Int), .int .i64 ((ps[i]).a : Int), .int .i64 ((ps[i]).n : Int)] := scV_get hin'
  generalize ps[i] = p at *
  repeat' first | refine wb fun _ => ?_ | refine wk ?_ | refine wc ?_ ?_ <;> intro h <;> try omega | refine l_qs (by exact q_loadRdA (j := i) (hA.up xpkd) rfl rfl rfl rfl rfl hget) rfl ?_ | fail
  refine ⟨rfl, n - (i + 1), _, _, by omega, ⟨i + 1, by omega, rfl, rfl, rfl⟩, ?_, Ent.pick xpkd⟩
  rw [hsu, show (1099511627776 - ((sumN (ps.take i) + p.n : Nat) : Int) : Int) = 1099511627776 - (sumN (ps.take i) : Int) - (p.n : Int) from by omega]
  exact xlss
 ·have : i = n := by omega
  subst this
  repeat' first | refine wk ?_ | refine wc ?_ ?_ <;> intro h <;> try omega | fail
  exact b_ret [A] rfl (Ent.pick xpkd) ⟨rfl, rfl⟩
theorem s_scsize (A : Asn) (a : Option Addr) (n c : Nat) (ps : List Pc) (hA : Rds [A] a n 3 (scV ps)) (hl : ps.length = n) (hp : ScOk ps) :
  Spec Tryz.prog 328 [.slice a n c] [A] (fun v S => v = .int .i64 (sumN ps : Int) ∧ S = [A]) := by
 obtain ⟨p1, p2, p3⟩ := hp
 refine spec_of Tryz.func328 rfl Tryz.results328 Tryz.ntmps328 rfl ?_
 repeat' first | refine wk ?_ | refine wc ?_ ?_ <;> intro h <;> try omega | fail
 refine t_loop (fun mm env S => ∃ i : Nat, i ≤ n ∧ mm = n - i ∧ env = [(3, .int .i64 (sumN (ps.take i) : Int)), (6, .slice a n c), (7, .int .i64 (n : Int)), (8, .int .i64 (i : Int))] ∧ S = [A]) n _ _ ⟨0, by omega, by omega, rfl, rfl⟩ xlss (Ent.refl _) ?_
 rintro mm env S ⟨i, hi, rfl, rfl, rfl⟩
 by_cases hin : i < n
 ·have hin' : i < ps.length := by omega
  refine t_pure (fun y hy => hA.some' (by omega) y hy) ?_
  rintro ⟨b, off, rfl⟩
  obtain ⟨g1, g2, g3⟩ := p1 _ (List.getElem_mem hin')
  have hsu := sumN_take hin'
  have hle := sumN_take_le ps (i + 1)
  have hget : (scV ps)[i]? = some [.int .i64 ((ps[i]).s : Int), .int .i64 ((ps[i]).a : Int), .int .i64 ((ps[i]).n : Int)] := scV_get hin'
  generalize ps[i] = p at *
  repeat' first | refine wb fun _ => ?_ | refine wk ?_ | refine wc ?_ ?_ <;> intro h <;> try omega | refine l_qs (by exact q_loadRdA (j := i) (hA.up xpkd) rfl rfl rfl rfl rfl hget) rfl ?_ | fail
  refine ⟨rfl, n - (i + 1), _, _, by omega, ⟨i + 1, by omega, rfl, rfl, rfl⟩, ?_, Ent.pick xpkd⟩
  rw [hsu]
  exact xlss
 ·have e : i = n := by omega
  subst e
  have e2 : ps.take i = ps := by rw [← hl, List.take_length]
  rw [e2]
  repeat' first | refine wk ?_ | refine wc ?_ ?_ <;> intro h <;> try omega | fail
  exact b_ret [A] rfl (Ent.pick xpkd) ⟨rfl, rfl⟩
theorem s_scSize (A : Asn) (a : Option Addr) (n c : Nat) (ps : List Pc) (hA : Rds [A] a n 3 (scV ps)) (hl : ps.length = n) (hp : ScOk ps) :
  Spec Tryz.prog 240 [.slice a n c] [A] (fun v S => v = .int .i64 (sumN ps : Int) ∧ S = [A]) := by
 refine spec_of Tryz.func240 rfl Tryz.results240 Tryz.ntmps240 rfl ?_
 repeat' first | refine wk ?_ | refine wc ?_ ?_ <;> intro h <;> try omega | fail
 refine c_call (s_scMay A a n c ps hA hl hp) rfl xpkd rfl rfl ?_
 rintro v S ⟨rfl, rfl⟩
 refine l_tell rfl ?_
 repeat' first | refine wk ?_ | refine wc ?_ ?_ <;> intro h <;> try omega | fail
 refine c_call (s_scsize A a n c ps hA hl hp) rfl xpkd rfl rfl ?_
 rintro v S ⟨rfl, rfl⟩
 refine l_tell rfl ?_
 repeat' first | refine wk ?_ | refine wc ?_ ?_ <;> intro h <;> try omega | fail
 exact b_ret [A] rfl (Ent.pick xpkd) ⟨rfl, rfl⟩
theorem s_rbMay (A : Asn) (a : Option Addr) (n c : Nat) (ps : List Pc) (hA : Rds [A] a n 3 (scV ps)) (hl : ps.length = n) (hp : ScOk ps) (h1 : ∀ p ∈ ps, p.s ≤ 1) :
  Spec Tryz.prog 319 [.slice a n c] [A] (fun v S => v = .bool true ∧ S = [A]) := by
 have hp' := hp
 obtain ⟨p1, p2, p3⟩ := hp
 refine spec_of Tryz.func319 rfl Tryz.results319 Tryz.ntmps319 rfl ?_
 repeat' first | refine wk ?_ | refine wc ?_ ?_ <;> intro h <;> try omega | fail
 refine t_loop (fun mm env S => ∃ i : Nat, i ≤ n ∧ mm = n - i ∧ env = [(0, .slice a n c), (5, .slice a n c), (6, .int .i64 (n : Int)), (7, .int .i64 (i : Int))] ∧ S = [A]) n _ _ ⟨0, by omega, by omega, rfl, rfl⟩ xlss (Ent.refl _) ?_
 rintro mm env S ⟨i, hi, rfl, rfl, rfl⟩
 by_cases hin : i < n
 ·have hin' : i < ps.length := by omega
  refine t_pure (fun y hy => hA.some' (by omega) y hy) ?_
  rintro ⟨b, off, rfl⟩
  have g1 := h1 _ (List.getElem_mem hin')
  have hget : (scV ps)[i]? = some [.int .i64 ((ps[i]).s : Int), .int .i64 ((ps[i]).a : Int), .int .i64 ((ps[i]).n : Int)] := scV_get hin'
  generalize ps[i] = p at *
  repeat' first | refine wb fun _ => ?_ | refine wk ?_ | refine wc ?_ ?_ <;> intro h <;> try omega | refine l_qs (by exact q_loadRdA (j := i) (hA.up xpkd) rfl rfl rfl rfl rfl hget) rfl ?_ | fail
  exact ⟨rfl, n - (i + 1), _, _, by omega, ⟨i + 1, by omega, rfl, rfl, rfl⟩, xlss, Ent.pick xpkd⟩
 ·have e : i = n := by omega
  subst e
  repeat' first | refine wk ?_ | refine wc ?_ ?_ <;> intro h <;> try omega | fail
  refine c_call (s_scMay A a i c ps hA hl hp') rfl xpkd rfl rfl ?_
  rintro v S ⟨rfl, rfl⟩
  refine l_tell rfl ?_
  repeat' first | refine wk ?_ | refine wc ?_ ?_ <;> intro h <;> try omega | fail
  exact b_ret [A] rfl (Ent.pick xpkd) ⟨rfl, rfl⟩
theorem s_rSlot (n k : Nat) (hn : n ≤ 2147483647) (hk : k ≤ 64) :
  Spec Tryz.prog 251 [.int .i64 (n : Int), .int .i64 (k : Int)] [] (fun v S => v = .tuple #[.int .i64 ((64 * (1 + (n + 63) / 64 + k) : Nat) : Int), .int .i64 0] ∧ S = []) := by
 refine spec_of Tryz.func251 rfl Tryz.results251 Tryz.ntmps251 rfl ?_
 refine t_same [] rfl ?_
 repeat' first | refine wk ?_ | refine wc ?_ ?_ <;> intro h <;> try omega | fail
 have e : ((64 * (1 + (n + 63) / 64 + k) : Nat) : Int) = 64 * (1 + ((n : Int) + 64 - 1) / 64 + (k : Int)) := by omega
 exact b_ret [] rfl (fun _ _ => trivial) ⟨by rw [e]; rfl, rfl⟩
end Go.Ox
end
section
set_option maxRecDepth 100000
set_option maxHeartbeats 1600000
namespace Go.Ox
open Go Go.Proofs
def puB (wd : Nat) (ns : List Nat) : List Nat := (ns.map fun k => leB k wd).flatten
theorem puB_snoc (wd : Nat) (ns : List Nat) (i : Nat) (h : i < ns.length) : puB wd (ns.take (i + 1)) = puB wd (ns.take i) ++ leB ns[i] wd := by
 unfold puB; rw [List.take_succ_eq_append_getElem h, List.map_append, List.flatten_append]; simp
theorem puB_len (wd : Nat) (ns : List Nat) : (puB wd ns).length = ns.length * wd := by
 unfold puB
 induction ns with
 | nil => simp
 | cons k ns ih => simp only [List.map_cons, List.flatten_cons, List.length_append, List.length_cons, leB_len, ih, Nat.add_mul]; omega
theorem puB_lt (wd : Nat) (ns : List Nat) : ∀ b ∈ puB wd ns, b < 256 := by
 intro b hb
 obtain ⟨l, hl, hb⟩ := List.mem_flatten.1 hb
 obtain ⟨k, _, rfl⟩ := List.mem_map.1 hl
 exact leB_lt _ _ _ hb
theorem natsV_get {ns : List Nat} {i : Nat} (h : i < ns.length) : (natsV ns)[i]? = some [.int .i64 ((ns[i] : Nat) : Int)] := by
 unfold natsV; rw [List.getElem?_map, List.getElem?_eq_getElem h]; rfl
theorem s_rPut (X A : Asn) (a an : Option Addr) (n c nn cn wd : Nat) (bs ns : List Nat) (hX : (∃ pb, X = frzC pb bs ∧ a = some ⟨pb, 0, none⟩ ∧ c = n ∧ 1 ≤ n) ∨ X = own a n c 5 1 (vb bs)) (hA : Rds [A] an nn 1 (natsV ns)) (hbs : bs.length = n) (hns : ns.length = nn) (hn1 : 1 ≤ nn) (hn : n + nn * wd ≤ 1000000) (h1 : 1 ≤ wd) (h2 : wd ≤ 8) (hk : ∀ k ∈ ns, k < 256 ^ wd ∧ k ≤ 1152921504606846976) :
  Spec Tryz.prog 249 [.slice a n c, .int .i64 (wd : Int), .slice an nn cn] [X, A] (fun v S => ∃ (a' : Option Addr) (c' : Nat), v = .slice a' (n + nn * wd) c' ∧ S = [own a' (n + nn * wd) c' 5 1 (vb (bs ++ puB wd ns)), A]) := by
 have hnn : nn ≤ 1000000 := Nat.le_trans (Nat.le_mul_of_pos_right nn h1) (by omega)
 refine spec_of Tryz.func249 rfl Tryz.results249 Tryz.ntmps249 rfl ?_
 repeat' first | refine wk ?_ | refine wc ?_ ?_ <;> intro h <;> try omega | fail
 refine t_loop (fun mm env S => ∃ (i n1 : Nat) (a1 : Option Addr) (c1 : Nat) (Y : Asn), ((i = 0 ∧ a1 = a ∧ c1 = c ∧ Y = X) ∨ (1 ≤ i ∧ Y = own a1 n1 c1 5 1 (vb (bs ++ puB wd (ns.take i))))) ∧ i ≤ nn ∧ mm = nn - i ∧ n1 = n + i * wd ∧ env = [(0, .slice a1 n1 c1), (1, .int .i64 (wd : Int)), (11, .slice an nn cn), (12, .int .i64 (nn : Int)), (13, .int .i64 (i : Int))] ∧ S = [Y, A]) nn _ _ ⟨0, n, a, c, X, .inl ⟨rfl, rfl, rfl, rfl⟩, by omega, by omega, by simp, rfl, rfl⟩ xlss (Ent.pick xpkd) ?_
 rintro mm env S ⟨i, n1, a1, c1, Y, hY, hi, rfl, hn1', rfl, rfl⟩
 by_cases hin : i < nn
 ·have hi2 : i < ns.length := by omega
  obtain ⟨w3, w4⟩ := hk _ (List.getElem_mem hi2)
  have hst := puB_snoc wd ns i hi2
  have hget := natsV_get hi2
  have hmul : (i + 1) * wd = i * wd + wd := by rw [Nat.add_mul, Nat.one_mul]
  have hmul2 : (i + 1) * wd ≤ nn * wd := Nat.mul_le_mul_right wd (by omega)
  refine t_pure (fun h hs => (hA.up (S := [_, A]) xpkd).some' (by omega) h hs) ?_
  rintro ⟨b, off, rfl⟩
  generalize ns[i] = k at *
  repeat' first | refine wk ?_ | refine wc ?_ ?_ <;> intro h <;> try omega | refine l_qs (by exact q_loadRd (j := i) (f := 0) (hA.up xpkd) rfl (by omega) rfl rfl hget rfl) rfl ?_ | fail
  refine c_call (s_leBytes k wd h1 h2 w3 w4) rfl .nil rfl rfl ?_
  rintro v S ⟨lb, rfl, rfl⟩
  refine l_tell rfl ?_
  repeat' first | refine wk ?_ | refine wc ?_ ?_ <;> intro h <;> try omega | fail
  rcases hY with ⟨h0, rfl, rfl, rfl⟩ | ⟨h0, rfl⟩
  ·subst h0
   have e0 : n1 = n := by rw [hn1']; simp
   subst e0
   have hp0 : puB wd (ns.take 0) = [] := by simp [puB]
   rw [hp0, List.nil_append] at hst
   rcases hX with ⟨pb, rfl, rfl, rfl, hge⟩ | rfl
   ·refine c_appendNew (zz := 1) (els := vb bs) rfl rfl (by rw [← hbs]; exact (frz_rds pb bs).up xpkd) hge (own_rds (a := some ⟨lb, 0, none⟩) xfnd) h1 (by omega) (by omega) rfl rfl rfl rfl rfl (by show (c1 + wd) * 1 ≤ _; omega) (by omega) rfl fun a3 c3 => ?_
    rw [vb_app]
    repeat' first | refine wk ?_ | refine wc ?_ ?_ <;> intro h <;> try omega | fail
    refine ⟨rfl, nn - (0 + 1), _, _, by omega, ⟨0 + 1, c1 + wd, a3, c3, own a3 (c1 + wd) c3 5 1 (vb (bs ++ leB k wd)), .inr ⟨by omega, by rw [hst]⟩, by omega, rfl, by omega, rfl, rfl⟩, xlss, Ent.pick xpkd⟩
   ·refine c_append rfl rfl xhol (own_rds (a := some ⟨lb, 0, none⟩) xfnd) rfl rfl rfl rfl rfl (by show (n1 + wd) * 1 ≤ _; omega) (by omega) rfl fun a3 c3 => ?_
    rw [vb_app]
    repeat' first | refine wk ?_ | refine wc ?_ ?_ <;> intro h <;> try omega | fail
    refine ⟨rfl, nn - (0 + 1), _, _, by omega, ⟨0 + 1, n1 + wd, a3, c3, own a3 (n1 + wd) c3 5 1 (vb (bs ++ leB k wd)), .inr ⟨by omega, by rw [hst]⟩, by omega, rfl, by omega, rfl, rfl⟩, xlss, Ent.pick xpkd⟩
  ·refine c_append rfl rfl xhol (own_rds (a := some ⟨lb, 0, none⟩) xfnd) rfl rfl rfl rfl rfl (by show (n1 + wd) * 1 ≤ _; omega) (by omega) rfl fun a3 c3 => ?_
   rw [vb_app]
   repeat' first | refine wk ?_ | refine wc ?_ ?_ <;> intro h <;> try omega | fail
   refine ⟨rfl, nn - (i + 1), _, _, by omega, ⟨i + 1, n1 + wd, a3, c3, own a3 (n1 + wd) c3 5 1 (vb (bs ++ puB wd (ns.take i) ++ leB k wd)), .inr ⟨by omega, by rw [hst, List.append_assoc]⟩, by omega, rfl, by omega, rfl, rfl⟩, xlss, Ent.pick xpkd⟩
 ·have e : i = nn := by omega
  subst e
  rcases hY with ⟨h0, _⟩ | ⟨_, rfl⟩
  ·omega
  rw [List.take_of_length_le (by omega)]
  subst hn1'
  repeat' first | refine wk ?_ | refine wc ?_ ?_ <;> intro h <;> try omega | fail
  exact b_ret [own a1 (n + i * wd) c1 5 1 (vb (bs ++ puB wd ns)), A] rfl (Ent.pick xpkd) ⟨a1, c1, rfl, rfl⟩
end Go.Ox
end
