/- WholeKept, part 24. No condition. -/
import Derived.Test.YtonpakokjgloaaaGreatOx13
import Derived.Test.YtonpakokjgloaaaGreatOx23
set_option linter.all false
section
namespace Go.Ox
open Go Go.Proofs
def arrP (sz : Nat) : Nat → Nat → List (Nat × Nat × Bool)
 | _, 0 => []
 | k, n + 1 => (k * sz, sz, false) :: arrP sz (k + 1) n
theorem arrP_spec (sz : Nat) : ∀ (n k i o s : Nat) (b : Bool), nthP (arrP sz k n) i = some (o, s, b) → o = (k + i) * sz ∧ s = sz := by
 intro n
 induction n with
 | zero => intro k i o s b h; cases i <;> cases h
 | succ n ih =>
  intro k i o s b h
  cases i with
  | zero => cases h; exact ⟨rfl, rfl⟩
  | succ i =>
   obtain ⟨h1, h2⟩ := ih (k + 1) i o s b h
   exact ⟨by rw [h1]; congr 1; omega, h2⟩
section
variable {env : KEnv} {x y : Operand} {t xt yt e : TypeId} {ti ei : TInf} {k : IntKind} {v : Value}
theorem q_indexArr {j len : Nat} {cs : Array Value} (hx : ev env x = some (.agg cs)) (hy : ev env y = some (.int k (.ofNat j))) (hT : Tab.tab Tryz.prog xt = some ti) (hd : ti.desc = .array len e) (hE : Tab.tab Tryz.prog e = some ei) (hz : ei.size = 1) (ha : ei.agg = false) (hj : j < len) (hv : nth cs.toList j = some v) : QP Tryz.prog env (.index xt x y) t v :=
 .mk fun ρ h w d pos aft => by
  have hu := r_under (P := Tryz.prog) w hT
  rw [hd] at hu
  have hs := r_size (P := Tryz.prog) w hE
  have hg := r_agg (P := Tryz.prog) w hE
  rw [ha] at hg
  rw [nth_get] at hv
  have hc : cs[j]? = some v := by simpa using hv
  simp [execOp, Instr.index, asIntOf, h x _ hx, h y _ hy, hu, part, hg, hs, hz, hc]
  exact fun q => absurd hj (by omega)
theorem q_buildArr {len : Nat} {ps : List (Nat × Operand)} {vs : List (Nat × Value)} {l : List Value} (hp : evParts env ps = some vs) (hT : Tab.tab Tryz.prog xt = some ti) (hd : ti.desc = .array len e) (hE : Tab.tab Tryz.prog e = some ei) (hf : fillS (arrP ei.size 0 len) ti.zero vs = some l) : QP Tryz.prog env (.build xt ps.toArray) t (.agg l.toArray) := .mk fun ρ h w d pos aft => by
  obtain ⟨z, hz, hzc⟩ := r_zero (P := Tryz.prog) w hT
  have hu := r_under (P := Tryz.prog) w hT
  rw [hd] at hu
  have hs := r_size (P := Tryz.prog) w hE
  have hfill := fill_of (pl := arrP ei.size 0 len) (place := fun i => some (i * ei.size, ei.size)) (fun i o s g hi => by
   obtain ⟨h1, h2⟩ := arrP_spec _ _ _ _ _ _ _ hi
   rw [h1, h2, Nat.zero_add]) hf
  simp only [execOp, Instr.build, Sem.run_bind, hz, Result.andThen_ok, hu, hs, hzc, Sem.run_pure]
  rw [show ((ps.toArray.map fun (i, x) => (i, ρ x)).toList) = vs from by
   simp only [List.map_toArray]
   exact evParts_map h hp]
  rw [hfill]
  rfl
theorem q_makeIface (hx : ev env x = some v) (hT : Tab.tab Tryz.prog xt = some ti) (hd : (match ti.desc with | .interface _ => false | _ => true) = true) : QP Tryz.prog env (.makeInterface xt x) t (.iface xt v) :=
 .mk fun ρ h w d pos aft => by
  have hu := r_under (P := Tryz.prog) w hT
  cases hdd : ti.desc <;> rw [hdd] at hu hd <;> simp_all [execOp, Instr.makeInterface, h x _ hx]
theorem q_eqlB {a b : Bool} (hx : ev env x = some (.bool a)) (hy : ev env y = some (.bool b)) (hT : Tab.tab Tryz.prog xt = some ti) (hd : ti.desc = .bool) : QP Tryz.prog env (.binOp .eql xt x y yt) t (.bool (a == b)) :=
 .mk fun ρ h w d pos aft => by
  have hu := r_under (P := Tryz.prog) w hT
  rw [hd] at hu
  have key : ∀ dd, (Op.equalIn (dd + 1) xt (.bool a) (.bool b)).run Tryz.prog w = .ok (a == b) w := fun dd => by
   unfold Op.equalIn; simp [hu]
  have hm : ∃ dd, Op.maxDepth = dd + 1 := ⟨Op.maxDepth - 1, by decide⟩
  obtain ⟨dd, hm⟩ := hm
  simp [execOp, h x _ hx, h y _ hy, eqGuard, binOp, Op.equal, hm, key]
end
end Go.Ox
end
section
set_option maxRecDepth 100000
set_option maxHeartbeats 1600000
namespace Go.Ox
open Go Go.Proofs
def okR (B : Int) (l : List (Int × Int)) : Prop := ∀ p ∈ l, 0 ≤ p.1 ∧ p.1 < p.2 ∧ p.2 ≤ B
def mrg (out : List (Int × Int)) (r : Int × Int) : List (Int × Int) :=
 match out.getLast? with
 | none => [r]
 | some q => if r.1 ≤ q.2 then out.dropLast ++ [(q.1, max q.2 r.2)] else out ++ [r]
theorem mrg_nil (r : Int × Int) : mrg [] r = [r] := rfl
theorem mrg_snoc (o : List (Int × Int)) (q r : Int × Int) : mrg (o ++ [q]) r = if r.1 ≤ q.2 then o ++ [(q.1, max q.2 r.2)] else o ++ [q] ++ [r] := by
 unfold mrg; simp
theorem snoc_orG {α : Type} (l : List α) : l = [] ∨ ∃ a x, l = a ++ [x] := by
 induction l with
 | nil => exact .inl rfl
 | cons y l ih =>
  right
  rcases ih with rfl | ⟨a, x, rfl⟩
  ·exact ⟨[], y, rfl⟩
  ·exact ⟨y :: a, x, rfl⟩
theorem mrg_ok {B : Int} {out : List (Int × Int)} {r : Int × Int} (h : okR B out) (hr : 0 ≤ r.1 ∧ r.1 < r.2 ∧ r.2 ≤ B) : okR B (mrg out r) := by
 rcases snoc_orG out with rfl | ⟨o, q, rfl⟩
 ·intro p hp; rw [List.mem_singleton.1 hp]; exact hr
 ·rw [mrg_snoc]
  have hq := h q (by simp)
  split
  ·intro p hp
   rcases List.mem_append.1 hp with hp | hp
   ·exact h p (List.mem_append_left _ hp)
   ·rw [List.mem_singleton.1 hp]; refine ⟨hq.1, ?_, ?_⟩ <;> simp only [] <;> omega
  ·intro p hp
   rcases List.mem_append.1 hp with hp | hp
   ·exact h p hp
   ·rw [List.mem_singleton.1 hp]; exact hr
theorem mrg_len (out : List (Int × Int)) (r : Int × Int) : (mrg out r).length ≤ out.length + 1 := by
 rcases snoc_orG out with rfl | ⟨o, q, rfl⟩
 ·simp [mrg_nil]
 ·rw [mrg_snoc]; split <;> simp
def merged (l : List (Int × Int)) : List (Int × Int) := l.foldl mrg []
theorem merged_snoc (l : List (Int × Int)) (i : Nat) (h : i < l.length) : merged (l.take (i + 1)) = mrg (merged (l.take i)) l[i] := by
 unfold merged; rw [List.take_add_one, List.getElem?_eq_getElem h, List.foldl_append]; rfl
theorem merged_ok {B : Int} {l : List (Int × Int)} (h : okR B l) : okR B (merged l) := by
 have key : ∀ (l out : List (Int × Int)), okR B l → okR B out → okR B (l.foldl mrg out) := by
  intro l
  induction l with
  | nil => intro out _ h; exact h
  | cons r l ih => intro out h1 h2; exact ih _ (fun p hp => h1 p (List.mem_cons_of_mem _ hp)) (mrg_ok h2 (h1 r (List.mem_cons_self ..)))
 exact key l [] h (fun p hp => by cases hp)
theorem merged_len (l : List (Int × Int)) : (merged l).length ≤ l.length := by
 have key : ∀ (l out : List (Int × Int)), (l.foldl mrg out).length ≤ out.length + l.length := by
  intro l
  induction l with
  | nil => intro out; simp
  | cons r l ih => intro out; have := ih (mrg out r); have := mrg_len out r; simp only [List.foldl_cons, List.length_cons]; omega
 have := key l []
 simpa [merged] using this
theorem rgV_get {l : List (Int × Int)} {i : Nat} (h : i < l.length) : (rgV l)[i]? = some [.int .i64 (l[i]).1, .int .i64 (l[i]).2] := by
 unfold rgV; rw [List.getElem?_map, List.getElem?_eq_getElem h]; rfl
theorem rgV_app (a b : List (Int × Int)) : rgV (a ++ b) = rgV a ++ rgV b := by simp [rgV]
theorem s_normal (A : Asn) (a : Option Addr) (n c : Nat) (B : Int) (l : List (Int × Int)) (hA : Rds [A] a n 2 (rgV l)) (hl : l.length = n) (hn : n ≤ 1000000) (hB : B ≤ 1152921504606846976) (ho : okR B l) :
  Spec Tryz.prog 105 [.slice a n c] [A] (fun v S => ∃ (a' : Option Addr) (c' : Nat) (l' : List (Int × Int)), l'.Perm l ∧ l'.Pairwise (fun p q => p.1 ≤ q.1) ∧ v = .slice a' (merged l').length c' ∧ S = [own a' (merged l').length c' 187 2 (rgV (merged l')), A]) := by
 refine spec_of Tryz.func105 rfl Tryz.results105 Tryz.ntmps105 rfl ?_
 repeat' first | refine wk ?_ | refine wc ?_ ?_ <;> intro h <;> try omega | fail
 refine o_alloc rfl rfl fun Bs => ?_
 repeat' first | refine wk ?_ | refine wc ?_ ?_ <;> intro h <;> try omega | fail
 refine t_ent (ent_nil 187 2 _) ?_
 refine t_loop (fun mm env S => ∃ (i : Nat) (a1 : Option Addr) (c1 : Nat), i ≤ n ∧ mm = n - i ∧ env = [(3, .pointer (some ⟨Bs, 0, none⟩)), (10, .slice a n c), (11, .int .i64 (n : Int)), (12, .int .i64 (i : Int))] ∧ S = [own a1 i c1 187 2 (rgV (l.take i)), cellsAt Bs 106 [.slice a1 i c1], A]) n _ _ ⟨0, none, 0, by omega, by omega, rfl, rfl⟩ xlss (Ent.pick xpkd) ?_
 rintro mm env S ⟨i, a1, c1, hi, rfl, rfl, rfl⟩
 by_cases hin : i < n
 ·have hi2 : i < l.length := by omega
  obtain ⟨g1, g2, g3⟩ := ho _ (List.getElem_mem hi2)
  refine t_pure (fun h hs => (hA.up (S := [_, _, A]) xpkd).some' (by omega) h hs) ?_
  rintro ⟨b, off, rfl⟩
  have hmx : max (l[i]).1 0 = (l[i]).1 := by omega
  repeat' first | refine wb fun _ => ?_ | refine wk ?_ | refine wc ?_ ?_ <;> intro h <;> try omega | refine l_qs (by exact q_loadRdA (j := i) (hA.up xpkd) rfl rfl rfl rfl rfl (rgV_get hi2)) rfl ?_ | refine d_qs rfl (by exact q_loadRdA (j := i) (hA.up xpkd) rfl rfl rfl rfl rfl (rgV_get hi2)) rfl ?_ | refine d_gqs rfl rfl (by exact q_loadRdA (j := i) (hA.up xpkd) rfl rfl rfl rfl rfl (rgV_get hi2)) rfl ?_ | (refine n_eff ?_ ?_; · (repeat first | refine wre ?_ | refine r_cons rfl (by first | exact q_loadRdA (j := i) (hA.up xpkd) rfl rfl rfl rfl rfl (rgV_get hi2) | fail) rfl ?_ | refine r_gcons rfl rfl (by first | exact q_loadRdA (j := i) (hA.up xpkd) rfl rfl rfl rfl rfl (rgV_get hi2) | fail) rfl ?_ | exact r_nil | fail)) | fail
  rw [hmx]
  refine o_buildSlice rfl rfl rfl rfl rfl rfl rfl rfl rfl rfl rfl rfl fun pb => ?_
  repeat' first | refine wk ?_ | refine wc ?_ ?_ <;> intro h <;> try omega | fail
  refine c_append rfl rfl xhol (own_rds (a := some ⟨pb, 0, none⟩) xfnd) rfl rfl rfl rfl rfl (by show (i + 1) * 16 ≤ _; omega) (by omega) rfl fun a3 c3 => ?_
  repeat' first | refine wk ?_ | refine wc ?_ ?_ <;> intro h <;> try omega | fail
  have e : rgV (l.take i) ++ [[.int .i64 (l[i]).1, .int .i64 (l[i]).2]] = rgV (l.take (i + 1)) := by
   rw [List.take_add_one, List.getElem?_eq_getElem hi2, rgV_app]; rfl
  refine ⟨rfl, n - (i + 1), _, _, by omega, ⟨i + 1, a3, c3, by omega, rfl, rfl, rfl⟩, xlss, ?_⟩
  rw [← e]
  exact Ent.pick xpkd
 ·have e : i = n := by omega
  subst e
  rw [List.take_of_length_le (by omega)]
  repeat' first | refine l_qp (by (apply q_makeIface; exact rfl; exact rfl; exact rfl)) rfl ?_ | refine d_qp rfl (by (apply q_makeIface; exact rfl; exact rfl; exact rfl)) rfl ?_ | refine d_gqp rfl rfl (by (apply q_makeIface; exact rfl; exact rfl; exact rfl)) rfl ?_ | refine wk ?_ | refine wc ?_ ?_ <;> intro h <;> try omega | fail
  refine c_call (s_sortSlice a1 i c1 Bs l (by omega)) rfl xpkd rfl rfl ?_
  rintro v S ⟨l', hperm, hsort, rfl⟩
  refine l_tell rfl ?_
  have hl' : l'.length = i := by rw [hperm.length_eq]; exact hl
  have ho' : okR B l' := fun p hp => ho p (hperm.mem_iff.1 hp)
  repeat' first | refine wk ?_ | refine wc ?_ ?_ <;> intro h <;> try omega | fail
  refine t_ent (ent_nil 187 2 _) ?_
  refine t_loop (fun mm env S => ∃ (k : Nat) (a2 : Option Addr) (c2 : Nat), k ≤ i ∧ mm = i - k ∧ env = [(6, .slice a2 (merged (l'.take k)).length c2), (34, .slice a1 i c1), (35, .int .i64 (i : Int)), (36, .int .i64 (k : Int))] ∧ S = [own a2 (merged (l'.take k)).length c2 187 2 (rgV (merged (l'.take k))), own a1 i c1 187 2 (rgV l'), A]) i _ _ ⟨0, none, 0, by omega, by omega, rfl, rfl⟩ xlss (Ent.pick xpkd) ?_
  rintro mm env S ⟨k, a2, c2, hk, rfl, rfl, rfl⟩
  by_cases hkn : k < i
  ·have hk2 : k < l'.length := by omega
   obtain ⟨g1, g2, g3⟩ := ho' _ (List.getElem_mem hk2)
   have hstep := merged_snoc l' k hk2
   have hok := merged_ok (B := B) (l := l'.take k) (fun p hp => ho' p (List.mem_of_mem_take hp))
   have hml : (merged (l'.take k)).length ≤ k := Nat.le_trans (merged_len _) (by rw [List.length_take]; omega)
   refine t_pure (p := ∃ b, a1 = some ⟨b, 0, none⟩ ∧ i ≤ c1) (fun h hs => own_some (by omega) h (star_drop hs)) ?_
   rintro ⟨b1, rfl, _⟩
   rcases snoc_orG (merged (l'.take k)) with hM | ⟨o, q, hM⟩
   ·rw [hM] at hstep ⊢
    rw [mrg_nil] at hstep
    rw [List.length_nil]
    repeat' first | refine wb fun _ => ?_ | refine wk ?_ | refine wc ?_ ?_ <;> intro h <;> try omega | refine l_qs (by exact q_loadRdA (j := k) (own_rds (a := some ⟨b1, 0, none⟩) (n := i) (c := c1) (els := rgV l') xfnd) rfl rfl rfl rfl rfl (rgV_get hk2)) rfl ?_ | refine d_qs rfl (by exact q_loadRdA (j := k) (own_rds (a := some ⟨b1, 0, none⟩) (n := i) (c := c1) (els := rgV l') xfnd) rfl rfl rfl rfl rfl (rgV_get hk2)) rfl ?_ | refine d_gqs rfl rfl (by exact q_loadRdA (j := k) (own_rds (a := some ⟨b1, 0, none⟩) (n := i) (c := c1) (els := rgV l') xfnd) rfl rfl rfl rfl rfl (rgV_get hk2)) rfl ?_ | (refine n_eff ?_ ?_; · (repeat first | refine wre ?_ | refine r_cons rfl (by first | exact q_loadRdA (j := k) (own_rds (a := some ⟨b1, 0, none⟩) (n := i) (c := c1) (els := rgV l') xfnd) rfl rfl rfl rfl rfl (rgV_get hk2) | fail) rfl ?_ | refine r_gcons rfl rfl (by first | exact q_loadRdA (j := k) (own_rds (a := some ⟨b1, 0, none⟩) (n := i) (c := c1) (els := rgV l') xfnd) rfl rfl rfl rfl rfl (rgV_get hk2) | fail) rfl ?_ | exact r_nil | fail)) | fail
    refine t_draw (.eval 0 true (.eval 1 true (.eval 2 true (.eval 3 true (.eval 4 false (.eval 5 true (.eval 6 true (.eval 7 true (.eval 8 true (.eval 9 false (.eval 10 true (.eval 11 true .fin)))))))))))) rfl (by kernel_rfl) ?_
    repeat' first | refine wk ?_ | refine wc ?_ ?_ <;> intro h <;> try omega | fail
    refine o_buildSlice rfl rfl rfl rfl rfl rfl rfl rfl rfl rfl rfl rfl fun pb => ?_
    repeat' first | refine wk ?_ | refine wc ?_ ?_ <;> intro h <;> try omega | fail
    refine c_append rfl rfl xhol (own_rds (a := some ⟨pb, 0, none⟩) xfnd) rfl rfl rfl rfl rfl (by show (0 + 1) * 16 ≤ _; omega) (by show 0 + 1 ≤ _; omega) rfl fun a3 c3 => ?_
    repeat' first | refine wk ?_ | refine wc ?_ ?_ <;> intro h <;> try omega | fail
    have e : (merged (l'.take (k + 1))).length = 0 + 1 := by rw [hstep]; rfl
    refine ⟨rfl, i - (k + 1), _, _, by omega, ⟨k + 1, a3, c3, by omega, rfl, rfl, rfl⟩, (by rw [e]; exact xlss), ?_⟩
    rw [e, hstep]
    exact Ent.pick xpkd
   ·have hlen : (o ++ [q]).length = o.length + 1 := by simp
    rw [hM] at hstep hok hml ⊢
    rw [mrg_snoc] at hstep
    rw [hlen] at hml ⊢
    obtain ⟨q1, q2, q3⟩ := hok q (by simp)
    have hgq : (rgV (o ++ [q]))[o.length]? = some [.int .i64 q.1, .int .i64 q.2] := by
     rw [rgV_get (l := o ++ [q]) (by simp)]; simp
    have e1 : (((o.length + 1 : Nat) : Int) - 1) = ((o.length : Nat) : Int) := by omega
    refine t_pure (own_some (by omega)) ?_
    rintro ⟨b2, rfl, _⟩
    by_cases hle : (l'[k]).1 ≤ q.2
    ·rw [if_pos hle] at hstep
     repeat' first | refine wb fun _ => ?_ | refine wk ?_ | refine wc ?_ ?_ <;> intro h <;> try omega | refine l_qs (by exact q_loadRdA (j := k) (own_rds (a := some ⟨b1, 0, none⟩) (n := i) (c := c1) (els := rgV l') xfnd) rfl rfl rfl rfl rfl (rgV_get hk2)) rfl ?_ | refine d_qs rfl (by exact q_loadRdA (j := k) (own_rds (a := some ⟨b1, 0, none⟩) (n := i) (c := c1) (els := rgV l') xfnd) rfl rfl rfl rfl rfl (rgV_get hk2)) rfl ?_ | refine d_gqs rfl rfl (by exact q_loadRdA (j := k) (own_rds (a := some ⟨b1, 0, none⟩) (n := i) (c := c1) (els := rgV l') xfnd) rfl rfl rfl rfl rfl (rgV_get hk2)) rfl ?_ | (refine n_eff ?_ ?_; · (repeat first | refine wre ?_ | refine r_cons rfl (by first | exact q_loadRdA (j := k) (own_rds (a := some ⟨b1, 0, none⟩) (n := i) (c := c1) (els := rgV l') xfnd) rfl rfl rfl rfl rfl (rgV_get hk2) | fail) rfl ?_ | refine r_gcons rfl rfl (by first | exact q_loadRdA (j := k) (own_rds (a := some ⟨b1, 0, none⟩) (n := i) (c := c1) (els := rgV l') xfnd) rfl rfl rfl rfl rfl (rgV_get hk2) | fail) rfl ?_ | exact r_nil | fail)) | fail
     rw [e1]
     refine t_draw (.eval 0 true (.eval 1 true (.eval 2 true (.eval 3 true (.eval 4 false (.eval 5 true (.eval 6 true (.eval 7 true (.eval 8 true (.eval 9 false (.eval 10 true (.eval 11 true .fin)))))))))))) rfl (by kernel_rfl) ?_
     repeat' first | refine wk ?_ | refine wc ?_ ?_ <;> intro h <;> try omega | refine l_qs (by exact q_loadRd (j := o.length) (f := 1) (r := [.int .i64 q.1, .int .i64 q.2]) (own_rds (a := some ⟨b2, 0, none⟩) (n := o.length + 1) (c := c2) (els := rgV (o ++ [q])) xfnd) rfl rfl rfl rfl hgq rfl) rfl ?_ | refine d_qs rfl (by exact q_loadRd (j := o.length) (f := 1) (r := [.int .i64 q.1, .int .i64 q.2]) (own_rds (a := some ⟨b2, 0, none⟩) (n := o.length + 1) (c := c2) (els := rgV (o ++ [q])) xfnd) rfl rfl rfl rfl hgq rfl) rfl ?_ | refine d_gqs rfl rfl (by exact q_loadRd (j := o.length) (f := 1) (r := [.int .i64 q.1, .int .i64 q.2]) (own_rds (a := some ⟨b2, 0, none⟩) (n := o.length + 1) (c := c2) (els := rgV (o ++ [q])) xfnd) rfl rfl rfl rfl hgq rfl) rfl ?_ | (refine n_eff ?_ ?_; · (repeat first | refine wre ?_ | refine r_cons rfl (by first | exact q_loadRd (j := o.length) (f := 1) (r := [.int .i64 q.1, .int .i64 q.2]) (own_rds (a := some ⟨b2, 0, none⟩) (n := o.length + 1) (c := c2) (els := rgV (o ++ [q])) xfnd) rfl rfl rfl rfl hgq rfl | fail) rfl ?_ | refine r_gcons rfl rfl (by first | exact q_loadRd (j := o.length) (f := 1) (r := [.int .i64 q.1, .int .i64 q.2]) (own_rds (a := some ⟨b2, 0, none⟩) (n := o.length + 1) (c := c2) (els := rgV (o ++ [q])) xfnd) rfl rfl rfl rfl hgq rfl | fail) rfl ?_ | exact r_nil | fail)) | fail
     refine t_draw (.eval 0 true (.eval 1 true (.eval 2 true (.eval 3 true (.eval 4 true (.eval 5 true (.eval 6 false (.eval 7 true (.eval 8 false (.eval 9 true (.eval 10 true (.eval 11 true (.eff 12 [] .fin .stop))))))))))))) rfl (by kernel_rfl) ?_
     repeat' first | refine wk ?_ | refine wc ?_ ?_ <;> intro h <;> try omega | refine l_qs (by exact q_loadRd (j := o.length) (f := 1) (r := [.int .i64 q.1, .int .i64 q.2]) (own_rds (a := some ⟨b2, 0, none⟩) (n := o.length + 1) (c := c2) (els := rgV (o ++ [q])) xfnd) rfl rfl rfl rfl hgq rfl) rfl ?_ | refine d_qs rfl (by exact q_loadRd (j := o.length) (f := 1) (r := [.int .i64 q.1, .int .i64 q.2]) (own_rds (a := some ⟨b2, 0, none⟩) (n := o.length + 1) (c := c2) (els := rgV (o ++ [q])) xfnd) rfl rfl rfl rfl hgq rfl) rfl ?_ | refine d_gqs rfl rfl (by exact q_loadRd (j := o.length) (f := 1) (r := [.int .i64 q.1, .int .i64 q.2]) (own_rds (a := some ⟨b2, 0, none⟩) (n := o.length + 1) (c := c2) (els := rgV (o ++ [q])) xfnd) rfl rfl rfl rfl hgq rfl) rfl ?_ | (refine n_eff ?_ ?_; · (repeat first | refine wre ?_ | refine r_cons rfl (by first | exact q_loadRd (j := o.length) (f := 1) (r := [.int .i64 q.1, .int .i64 q.2]) (own_rds (a := some ⟨b2, 0, none⟩) (n := o.length + 1) (c := c2) (els := rgV (o ++ [q])) xfnd) rfl rfl rfl rfl hgq rfl | fail) rfl ?_ | refine r_gcons rfl rfl (by first | exact q_loadRd (j := o.length) (f := 1) (r := [.int .i64 q.1, .int .i64 q.2]) (own_rds (a := some ⟨b2, 0, none⟩) (n := o.length + 1) (c := c2) (els := rgV (o ++ [q])) xfnd) rfl rfl rfl rfl hgq rfl | fail) rfl ?_ | exact r_nil | fail)) | fail
     refine c_storeOwn (k := o.length) (f := 1) (r := [.int .i64 q.1, .int .i64 q.2]) (r' := [.int .i64 q.1, .int .i64 (max q.2 (l'[k]).2)]) rfl rfl xhol rfl rfl rfl (by omega) hgq rfl ?_
     repeat' first | refine wk ?_ | refine wc ?_ ?_ <;> intro h <;> try omega | fail
     have hs : (rgV (o ++ [q])).set o.length [.int .i64 q.1, .int .i64 (max q.2 (l'[k]).2)] = rgV (o ++ [(q.1, max q.2 (l'[k]).2)]) := by
      rw [rgV_app, rgV_app, List.set_append_right _ _ (by simp [rgV])]
      simp [rgV, encR]
     have e : (merged (l'.take (k + 1))).length = o.length + 1 := by rw [hstep]; simp
     refine ⟨rfl, i - (k + 1), _, _, by omega, ⟨k + 1, some ⟨b2, 0, none⟩, c2, by omega, rfl, rfl, rfl⟩, (by rw [e]; exact xlss), ?_⟩
     rw [e, hstep, ← hs]
     exact Ent.pick xpkd
    ·rw [if_neg hle] at hstep
     repeat' first | refine wb fun _ => ?_ | refine wk ?_ | refine wc ?_ ?_ <;> intro h <;> try omega | refine l_qs (by exact q_loadRdA (j := k) (own_rds (a := some ⟨b1, 0, none⟩) (n := i) (c := c1) (els := rgV l') xfnd) rfl rfl rfl rfl rfl (rgV_get hk2)) rfl ?_ | refine d_qs rfl (by exact q_loadRdA (j := k) (own_rds (a := some ⟨b1, 0, none⟩) (n := i) (c := c1) (els := rgV l') xfnd) rfl rfl rfl rfl rfl (rgV_get hk2)) rfl ?_ | refine d_gqs rfl rfl (by exact q_loadRdA (j := k) (own_rds (a := some ⟨b1, 0, none⟩) (n := i) (c := c1) (els := rgV l') xfnd) rfl rfl rfl rfl rfl (rgV_get hk2)) rfl ?_ | (refine n_eff ?_ ?_; · (repeat first | refine wre ?_ | refine r_cons rfl (by first | exact q_loadRdA (j := k) (own_rds (a := some ⟨b1, 0, none⟩) (n := i) (c := c1) (els := rgV l') xfnd) rfl rfl rfl rfl rfl (rgV_get hk2) | fail) rfl ?_ | refine r_gcons rfl rfl (by first | exact q_loadRdA (j := k) (own_rds (a := some ⟨b1, 0, none⟩) (n := i) (c := c1) (els := rgV l') xfnd) rfl rfl rfl rfl rfl (rgV_get hk2) | fail) rfl ?_ | exact r_nil | fail)) | fail
     rw [e1]
     refine t_draw (.eval 0 true (.eval 1 true (.eval 2 true (.eval 3 true (.eval 4 false (.eval 5 true (.eval 6 true (.eval 7 true (.eval 8 true (.eval 9 false (.eval 10 true (.eval 11 true .fin)))))))))))) rfl (by kernel_rfl) ?_
     repeat' first | refine wk ?_ | refine wc ?_ ?_ <;> intro h <;> try omega | refine l_qs (by exact q_loadRd (j := o.length) (f := 1) (r := [.int .i64 q.1, .int .i64 q.2]) (own_rds (a := some ⟨b2, 0, none⟩) (n := o.length + 1) (c := c2) (els := rgV (o ++ [q])) xfnd) rfl rfl rfl rfl hgq rfl) rfl ?_ | refine d_qs rfl (by exact q_loadRd (j := o.length) (f := 1) (r := [.int .i64 q.1, .int .i64 q.2]) (own_rds (a := some ⟨b2, 0, none⟩) (n := o.length + 1) (c := c2) (els := rgV (o ++ [q])) xfnd) rfl rfl rfl rfl hgq rfl) rfl ?_ | refine d_gqs rfl rfl (by exact q_loadRd (j := o.length) (f := 1) (r := [.int .i64 q.1, .int .i64 q.2]) (own_rds (a := some ⟨b2, 0, none⟩) (n := o.length + 1) (c := c2) (els := rgV (o ++ [q])) xfnd) rfl rfl rfl rfl hgq rfl) rfl ?_ | (refine n_eff ?_ ?_; · (repeat first | refine wre ?_ | refine r_cons rfl (by first | exact q_loadRd (j := o.length) (f := 1) (r := [.int .i64 q.1, .int .i64 q.2]) (own_rds (a := some ⟨b2, 0, none⟩) (n := o.length + 1) (c := c2) (els := rgV (o ++ [q])) xfnd) rfl rfl rfl rfl hgq rfl | fail) rfl ?_ | refine r_gcons rfl rfl (by first | exact q_loadRd (j := o.length) (f := 1) (r := [.int .i64 q.1, .int .i64 q.2]) (own_rds (a := some ⟨b2, 0, none⟩) (n := o.length + 1) (c := c2) (els := rgV (o ++ [q])) xfnd) rfl rfl rfl rfl hgq rfl | fail) rfl ?_ | exact r_nil | fail)) | fail
     refine o_buildSlice rfl rfl rfl rfl rfl rfl rfl rfl rfl rfl rfl rfl fun pb => ?_
     repeat' first | refine wk ?_ | refine wc ?_ ?_ <;> intro h <;> try omega | fail
     refine c_append rfl rfl xhol (own_rds (a := some ⟨pb, 0, none⟩) xfnd) rfl rfl rfl rfl rfl (by show (o.length + 1 + 1) * 16 ≤ _; omega) (by omega) rfl fun a3 c3 => ?_
     repeat' first | refine wk ?_ | refine wc ?_ ?_ <;> intro h <;> try omega | fail
     have e : (merged (l'.take (k + 1))).length = o.length + 1 + 1 := by rw [hstep]; simp
     refine ⟨rfl, i - (k + 1), _, _, by omega, ⟨k + 1, a3, c3, by omega, rfl, rfl, rfl⟩, (by rw [e]; exact xlss), ?_⟩
     rw [e, hstep, rgV_app (o ++ [q])]
     exact Ent.pick xpkd
  ·have ek : k = i := by omega
   subst ek
   rw [List.take_of_length_le (by omega)]
   repeat' first | refine wk ?_ | refine wc ?_ ?_ <;> intro h <;> try omega | fail
   exact b_ret [own a2 (merged l').length c2 187 2 (rgV (merged l')), A] rfl (Ent.pick xpkd) ⟨a2, c2, l', hperm, hsort, rfl, rfl⟩
end Go.Ox
end
section
set_option maxRecDepth 100000
set_option maxHeartbeats 800000
namespace Go.Ox
open Go Go.Proofs
theorem s_total (A : Asn) (a : Option Addr) (n c : Nat) (l : List (Int × Int)) (hA : Rds [A] a n 2 (rgV l)) (hl : l.length = n) (hn : n ≤ 1000000) (ho : okR 1048576 l) :
  Spec Tryz.prog 58 [.slice a n c] [A] (fun v S => ∃ z : Nat, v = .int .i64 (z : Int) ∧ S = [A]) := by
 refine spec_of Tryz.func58 rfl Tryz.results58 Tryz.ntmps58 rfl ?_
 repeat' first | refine wk ?_ | refine wc ?_ ?_ <;> intro h <;> try omega | fail
 refine c_call (s_normal A a n c 1048576 l hA hl hn (by omega) ho) rfl xpkd rfl rfl ?_
 rintro v S ⟨a', c', l', hperm, hsort, rfl, rfl⟩
 have hok := merged_ok (B := 1048576) (l := l') (fun p hp => ho p (hperm.mem_iff.1 hp))
 have hml := Nat.le_trans (merged_len l') (Nat.le_of_eq hperm.length_eq)
 generalize merged l' = m at *
 refine l_tell rfl ?_
 repeat' first | refine wk ?_ | refine wc ?_ ?_ <;> intro h <;> try omega | fail
 refine t_loop (fun mm env S => ∃ (i acc : Nat), i ≤ m.length ∧ mm = m.length - i ∧ acc ≤ 1048576 * i ∧ env = [(3, .int .i64 (acc : Int)), (7, .slice a' m.length c'), (8, .int .i64 (m.length : Int)), (9, .int .i64 (i : Int))] ∧ S = [own a' m.length c' 187 2 (rgV m), A]) m.length _ _ ⟨0, 0, by omega, by omega, by omega, rfl, rfl⟩ xlss (Ent.refl _) ?_
 rintro mm env S ⟨i, acc, hi, rfl, hacc, rfl, rfl⟩
 by_cases hin : i < m.length
 ·obtain ⟨g1, g2, g3⟩ := hok _ (List.getElem_mem hin)
  refine t_pure (own_some (by omega)) ?_
  rintro ⟨b, rfl, _⟩
  repeat' first | refine wb fun _ => ?_ | refine wk ?_ | refine wc ?_ ?_ <;> intro h <;> try omega | refine l_qs (by exact q_loadRdA (j := i) (own_rds (a := some ⟨b, 0, none⟩) (n := m.length) (c := c') (els := rgV m) xfnd) rfl rfl rfl rfl rfl (rgV_get hin)) rfl ?_ | fail
  have e : (acc : Int) + ((m[i]).2 - (m[i]).1) = ((acc + ((m[i]).2 - (m[i]).1).toNat : Nat) : Int) := by omega
  rw [e]
  exact ⟨rfl, m.length - (i + 1), _, _, by omega, ⟨i + 1, acc + ((m[i]).2 - (m[i]).1).toNat, by omega, rfl, by omega, rfl, rfl⟩, xlss, Ent.pick xpkd⟩
 ·repeat' first | refine wk ?_ | refine wc ?_ ?_ <;> intro h <;> try omega | fail
  exact b_ret [A] rfl (Ent.pick xpkd) ⟨acc, rfl, rfl⟩
def oneR (us : List Nat) : List (Int × Int) := us.map fun (k : Nat) => ((k : Int), (k : Int) + 1)
theorem s_listed (um B : Nat) (us : List Nat) (hu : us.length ≤ 1000000) (hb : ∀ k ∈ us, k + 1 ≤ B) (hB : B ≤ 1048576) :
  Spec Tryz.prog 106 [.map (some um)] [amap um kInt (usM us)] (fun v S => ∃ (a : Option Addr) (c : Nat) (out : List (Int × Int)), okR B out ∧ out.length ≤ us.length ∧ v = .slice a out.length c ∧ S = [own a out.length c 187 2 (rgV out), amap um kInt (usM us)]) := by
 refine spec_of Tryz.func106 rfl Tryz.results106 Tryz.ntmps106 rfl ?_
 repeat' first | refine wk ?_ | refine wc ?_ ?_ <;> intro h <;> try omega | fail
 refine c_range rfl xhol rfl rfl rfl fun it => ?_
 repeat' first | refine wk ?_ | refine wc ?_ ?_ <;> intro h <;> try omega | fail
 refine t_ent (ent_nil 187 2 _) ?_
 refine t_loop (fun mm env S => ∃ (li ys : List Nat) (cur : Option (Value × Value)) (a1 : Option Addr) (c1 : Nat), mm = li.length ∧ (∀ x ∈ li, x ∈ us) ∧ (∀ x ∈ ys, x ∈ us) ∧ ys.length + li.length = us.length ∧ env = [(3, .slice a1 (oneR ys).length c1), (6, .pointer (some ⟨it, 0, none⟩))] ∧ S = [arange it um kInt (usM us) (usM li) cur, own a1 (oneR ys).length c1 187 2 (rgV (oneR ys))]) us.length _ _ ⟨us, [], none, none, 0, rfl, fun _ h => h, fun _ h => (by cases h), by simp, rfl, rfl⟩ xlss (Ent.pick xpkd) ?_
 rintro mm env S ⟨li, ys, cur, a1, c1, rfl, hli, hys, hlen, rfl, rfl⟩
 have hol : (oneR ys).length = ys.length := by simp [oneR]
 repeat' first | refine wk ?_ | refine wc ?_ ?_ <;> intro h <;> try omega | fail
 refine c_next rfl .here rfl (fun he => ?_) fun p' l' hp hm => ?_
 ·repeat' first | refine wk ?_ | refine wc ?_ ?_ <;> intro h <;> try omega | fail
  have hok : okR B (oneR ys) := by
   intro p hp
   obtain ⟨k, hk, rfl⟩ := List.mem_map.1 hp
   have := hb k (hys k hk)
   refine ⟨?_, ?_, ?_⟩ <;> simp only [] <;> omega
  refine c_call (s_normal (own a1 (oneR ys).length c1 187 2 (rgV (oneR ys))) a1 (oneR ys).length c1 B (oneR ys) (Rds.own 0 rfl) rfl (by omega) (by omega) hok) rfl xpkd rfl rfl ?_
  rintro v S ⟨a', c', l', hperm, hsort, rfl, rfl⟩
  refine l_tell rfl ?_
  have hok2 := merged_ok (B := B) (l := l') (fun p hp => hok p (hperm.mem_iff.1 hp))
  have hml := Nat.le_trans (merged_len l') (Nat.le_of_eq hperm.length_eq)
  repeat' first | refine wk ?_ | refine wc ?_ ?_ <;> intro h <;> try omega | fail
  exact b_ret [own a' (merged l').length c' 187 2 (rgV (merged l')), amap um kInt (usM us)] rfl (Ent.pick xpkd) ⟨a', c', merged l', hok2, by omega, rfl, rfl⟩
 ·have hpm : p' ∈ usM li := hp.mem_iff.2 (List.mem_cons_self ..)
  obtain ⟨x, hx, rfl⟩ := List.mem_map.1 hpm
  obtain ⟨l1, l2, rfl⟩ := List.append_of_mem hx
  have hp2 : l'.Perm (usM (l1 ++ l2)) := (List.perm_cons _).1 (hp.symm.trans (usM_mid l1 l2 x))
  have hxB := hb x (hli x hx)
  have hli2 : ∀ y ∈ l1 ++ l2, y ∈ us := fun y hy => hli y (by
   rcases List.mem_append.1 hy with h | h
   ·exact List.mem_append_left _ h
   ·exact List.mem_append_right _ (List.mem_cons_of_mem _ h))
  refine l_ent (S' := [arange it um kInt (usM us) (usM (l1 ++ l2)) (some (.int .i64 (x : Int), .bool true)), own a1 (oneR ys).length c1 187 2 (rgV (oneR ys))]) ((Ent.fold (L := [_]) (arange_perm hp2))) ?_
  repeat' first | refine wk ?_ | refine wc ?_ ?_ <;> intro h <;> try omega | refine l_qs (by exact c_entry rfl xfnd) rfl ?_ | fail
  refine o_buildSlice rfl rfl rfl rfl rfl rfl rfl rfl rfl rfl rfl rfl fun pb => ?_
  repeat' first | refine wk ?_ | refine wc ?_ ?_ <;> intro h <;> try omega | fail
  simp only [List.length_append, List.length_cons] at hlen
  refine c_append rfl rfl xhol (own_rds (a := some ⟨pb, 0, none⟩) xfnd) rfl rfl rfl rfl rfl (by show ((oneR ys).length + 1) * 16 ≤ _; omega) (by omega) rfl fun a3 c3 => ?_
  have e : rgV (oneR ys) ++ [[.int .i64 (x : Int), .int .i64 ((x : Int) + 1)]] = rgV (oneR (ys ++ [x])) := by simp [rgV, oneR, encR]
  have e2 : (oneR ys).length + 1 = (oneR (ys ++ [x])).length := by simp [oneR]
  repeat' first | refine wk ?_ | refine wc ?_ ?_ <;> intro h <;> try omega | fail
  rw [e2]
  refine ⟨rfl, (l1 ++ l2).length, _, _, by simp, ⟨l1 ++ l2, ys ++ [x], some (.int .i64 (x : Int), .bool true), a3, c3, rfl, hli2, ?_, by simp only [List.length_append, List.length_cons, List.length_nil]; omega, rfl, rfl⟩, xlss, ?_⟩
  ·intro y hy
   rcases List.mem_append.1 hy with h | h
   ·exact hys y h
   ·rw [List.mem_singleton.1 h]; exact hli x hx
  ·rw [← e]; exact Ent.pick xpkd
theorem s_spUsed (s tk B : Nat) (us : List Nat) (hu : us.length ≤ 1000000) (hb : ∀ k ∈ us, k + 1 ≤ B) (hB : B ≤ 1048576) :
  Spec Tryz.prog 59 [.pointer (some ⟨s, 0, none⟩)] [spC s us tk] (fun v S => ∃ (a : Option Addr) (c : Nat) (out : List (Int × Int)), okR B out ∧ out.length ≤ us.length ∧ v = .slice a out.length c ∧ S = [own a out.length c 187 2 (rgV out), spC s us tk]) := by
 refine spec_of Tryz.func59 rfl Tryz.results59 Tryz.ntmps59 rfl ?_
 refine t_open sp_open .here fun r hr => ?_
 refine t_tell rfl ?_
 repeat' first | refine wk ?_ | refine wc ?_ ?_ <;> intro h <;> try omega | fail
 refine c_call (s_listed r.um B us hu hb hB) rfl xpkd rfl rfl ?_
 rintro v S ⟨a, c, out, ho, hlen, rfl, rfl⟩
 refine l_tell rfl ?_
 repeat' first | refine wk ?_ | refine wc ?_ ?_ <;> intro h <;> try omega | fail
 exact b_ret [own a out.length c 187 2 (rgV out), spC s us tk] rfl (Ent.cons _ (Ent.close1 (L := spL s us r) (sp_close r hr) xpkd)) ⟨a, c, out, ho, hlen, rfl, rfl⟩
end Go.Ox
end
