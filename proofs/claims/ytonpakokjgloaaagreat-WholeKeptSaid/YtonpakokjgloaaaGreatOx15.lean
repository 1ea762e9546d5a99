/- WholeKept, part 15. No condition. -/
import Derived.Test.YtonpakokjgloaaaGreatOx12
import Derived.Test.YtonpakokjgloaaaGreatOx14
set_option linter.all false
section
set_option maxRecDepth 100000
set_option maxHeartbeats 4000000
namespace Go.Ox
open Go Go.Proofs
structure Pc where
 s : Nat
 a : Nat
 n : Nat
 l : Int
def Pc.cells (p : Pc) : List Value := [.int .i64 (p.s : Int), .int .i64 (p.a : Int), .int .i64 (p.n : Int), .int .i64 p.l]
def Pc.v (p : Pc) : Value := .agg #[.int .i64 (p.s : Int), .int .i64 (p.a : Int), .int .i64 (p.n : Int), .int .i64 p.l]
def Pc.ok (p : Pc) : Prop := (p.s = 0 ∨ p.s = 1) ∧ p.a + p.n ≤ 16777216 ∧ 1 ≤ p.n ∧ p.n ≤ 1048576 ∧ -1 ≤ p.l ∧ p.l ≤ p.n ∧ (p.s = 1 ∨ p.l = -1)
def pcs (ps : List Pc) : List (List Value) := ps.map Pc.cells
def sumN (ps : List Pc) : Nat := (ps.map Pc.n).sum
theorem sumN_append (a b : List Pc) : sumN (a ++ b) = sumN a + sumN b := by simp [sumN]
theorem sumN_take_le (ps : List Pc) (i : Nat) : sumN (ps.take i) ≤ sumN ps := by
 have := sumN_append (ps.take i) (ps.drop i)
 rw [List.take_append_drop] at this; omega
theorem sumN_take_succ (ps : List Pc) (i : Nat) (h : i < ps.length) : sumN (ps.take (i + 1)) = sumN (ps.take i) + ps[i].n := by
 rw [List.take_add_one, List.getElem?_eq_getElem h, sumN_append]; simp [sumN]
theorem s_counted (l : Int) (n : Nat) (h1 : -1 ≤ l) (h2 : l ≤ n) : Spec Tryz.prog 274 [.int .i64 l, .int .i64 n] [] (fun v S => v = .bool true ∧ S = []) := by
 refine spec_of Tryz.func274 rfl Tryz.results274 Tryz.ntmps274 rfl ?_
 repeat' first | refine wk ?_ | refine wc ?_ ?_ <;> intro h <;> try omega | fail
 exact b_ret _ rfl (Ent.refl _) ⟨rfl, rfl⟩
theorem s_mayEntry (p : Pc) (hp : p.ok) : Spec Tryz.prog 205 [p.v] [] (fun v S => v = .bool true ∧ S = []) := by
 refine spec_of Tryz.func205 rfl Tryz.results205 Tryz.ntmps205 rfl ?_
 obtain ⟨h1, h2, h3, h4, h5, h6, h7⟩ := hp
 repeat' first | refine wb fun _ => ?_ | refine wk ?_ | refine wc ?_ ?_ <;> intro h <;> try omega | fail
 all_goals refine c_call (s_counted p.l p.n (by omega) (by omega)) rfl .nil rfl rfl ?_
 all_goals rintro v S ⟨rfl, rfl⟩
 all_goals refine l_tell rfl ?_
 repeat' first | refine wk ?_ | refine wc ?_ ?_ <;> intro h <;> try omega | fail
 all_goals exact b_ret _ rfl (Ent.pick .nil) ⟨rfl, rfl⟩
theorem pcs_get {ps : List Pc} {i : Nat} (h : i < ps.length) : (pcs ps)[i]? = some (ps[i]).cells := by simp [pcs, List.getElem?_eq_getElem h]
def PcRd (A : Asn) (a : Option Addr) (n : Nat) (ps : List Pc) : Prop := Rds [A] a n 4 (pcs ps)
theorem s_nodeMay (A : Asn) (a : Option Addr) (n c : Nat) (ps : List Pc) (hA : PcRd A a n ps) (hl : ps.length = n) (h1 : 1 ≤ n) (h2 : n ≤ 12) (ho : ∀ p ∈ ps, p.ok) (hs : sumN ps ≤ 1048576) :
  Spec Tryz.prog 144 [.agg #[.bool true, .slice a n c, .slice none 0 0]] [A] (fun v S => v = .bool true ∧ S = [A]) := by
 refine spec_of Tryz.func144 rfl Tryz.results144 Tryz.ntmps144 rfl ?_
 refine t_pure (hA.some (by omega)) ?_
 rintro ⟨b0, off, rfl⟩
 subst hl
 repeat' first | refine wk ?_ | refine wc ?_ ?_ <;> intro h <;> try omega | fail
 refine o_box rfl rfl rfl fun b => ?_
 repeat' first | refine wk ?_ | refine wc ?_ ?_ <;> intro h <;> try omega | fail
 refine t_tell rfl ?_
 refine t_slots [1, 3, 4, 12, 13, 14] rfl ?_
 refine t_loop (fun m env S => ∃ (i : Nat) (sm : Int), i ≤ ps.length ∧ m = ps.length - i ∧ sm = (sumN (ps.take i) : Nat) ∧ env = [(1, .pointer (some ⟨b, 0, none⟩)), (3, .int .i64 sm), (4, .int .i64 0), (12, .slice (some ⟨b0, off, none⟩) ps.length c), (13, .int .i64 (ps.length : Int)), (14, .int .i64 (i : Int))] ∧ S = [cellsAt b 224 [.bool true, .slice (some ⟨b0, off, none⟩) ps.length c, .slice none 0 0], A]) ps.length _ _ ⟨0, 0, by omega, by omega, rfl, rfl, rfl⟩ (fun _ _ q => q) (Ent.refl _) ?_
 rintro m env S ⟨i, sm, hi, rfl, rfl, rfl, rfl⟩
 by_cases hin : i < ps.length
 ·have hp := ho _ (List.getElem_mem hin)
  have hs1 := sumN_take_succ ps i hin
  have hs2 := sumN_take_le ps (i + 1)
  have hs0 := sumN_take_le ps i
  have hpn := hp.2.2.2.1
  repeat' first | refine wb fun _ => ?_ | refine wk ?_ | refine wc ?_ ?_ <;> intro h <;> try omega | refine l_qs (by exact q_loadRdA (j := i) (hA.up xpkd) rfl rfl rfl rfl rfl (pcs_get hin)) rfl ?_ | refine d_qs rfl (by exact q_loadRdA (j := i) (hA.up xpkd) rfl rfl rfl rfl rfl (pcs_get hin)) rfl ?_ | refine d_gqs rfl rfl (by exact q_loadRdA (j := i) (hA.up xpkd) rfl rfl rfl rfl rfl (pcs_get hin)) rfl ?_ | (refine n_eff ?_ ?_; · (repeat first | refine wre ?_ | refine r_cons rfl (by first | exact q_loadRdA (j := i) (hA.up xpkd) rfl rfl rfl rfl rfl (pcs_get hin) | fail) rfl ?_ | refine r_gcons rfl rfl (by first | exact q_loadRdA (j := i) (hA.up xpkd) rfl rfl rfl rfl rfl (pcs_get hin) | fail) rfl ?_ | exact r_nil | fail)) | fail
  refine c_call (s_mayEntry _ hp) rfl .nil rfl rfl ?_
  rintro v S ⟨rfl, rfl⟩
  refine l_tell rfl ?_
  repeat' first | refine wk ?_ | refine wc ?_ ?_ <;> intro h <;> try omega | fail
  exact ⟨rfl, ps.length - (i + 1), _, _, by omega, ⟨i + 1, _, by omega, rfl, (by rw [hs1]; try exact Int.natCast_add _ _), rfl, rfl⟩, xlss, Ent.pick xpkd⟩
 ·have e : i = ps.length := by omega
  subst e
  repeat' first | refine wk ?_ | refine wc ?_ ?_ <;> intro h <;> try omega | fail
  refine t_loop0 ?_
  repeat' first | refine wk ?_ | refine wc ?_ ?_ <;> intro h <;> try omega | fail
  have hst : sumN (ps.take ps.length) = sumN ps := by rw [List.take_length]
  refine t_draw (.eval 0 true (.eval 1 false (.eval 2 true (.eff 3 [1] (.eff 4 [] .fin .stop) .stop)))) rfl (by kernel_rfl) ?_
  repeat' first | refine wk ?_ | refine wc ?_ ?_ <;> intro h <;> try omega | fail
  refine t_draw (.eval 0 true (.eval 1 false (.eval 2 true (.eff 3 [1] (.eff 4 [] .fin .stop) .stop)))) rfl (by kernel_rfl) ?_
  repeat' first | refine wk ?_ | refine wc ?_ ?_ <;> intro h <;> try omega | fail
  exact b_ret _ rfl (Ent.pick xpkd) ⟨rfl, rfl⟩
def enc (l : Int) : Nat := if l = -1 then 4294967295 else l.toNat
def encs (w : Nat) (ns : List Int) : List Nat := ns.flatMap fun x => leB (enc x) w
theorem encs_take (w : Nat) (ns : List Int) (i : Nat) (h : i < ns.length) : encs w (ns.take (i + 1)) = encs w (ns.take i) ++ leB (enc ns[i]) w := by
 unfold encs; rw [List.take_add_one, List.getElem?_eq_getElem h, List.flatMap_append]; simp
theorem encs_len (w : Nat) (ns : List Int) : (encs w ns).length = ns.length * w := by
 induction ns with
 | nil => simp [encs]
 | cons x ns ih =>
  unfold encs at ih ⊢
  rw [List.flatMap_cons, List.length_append, ih, leB_len, List.length_cons, Nat.add_mul]; omega
def intsL (ns : List Int) : List (List Value) := ns.map fun x => [.int .i64 x]
theorem s_nodePut (A : Asn) (a na : Option Addr) (n c k kc w : Nat) (bs : List Nat) (ns : List Int) (hA : Rds [A] na k 1 (intsL ns)) (hk : ns.length = k) (hw1 : 1 ≤ w) (hw2 : w ≤ 4) (hb : bs.length = n) (hn : n + k * w ≤ 1000000) (hns : ∀ x ∈ ns, -1 ≤ x ∧ x ≤ 1152921504606 ∧ enc x < 256 ^ w) :
  Spec Tryz.prog 346 [.slice a n c, .int .i64 w, .slice na k kc] [own a n c 5 1 (vb bs), A] (fun v S => ∃ a' c', v = .slice a' (n + k * w) c' ∧ S = [own a' (n + k * w) c' 5 1 (vb (bs ++ encs w ns)), A]) := by
 refine spec_of Tryz.func346 rfl Tryz.results346 Tryz.ntmps346 rfl ?_
 subst hk
 repeat' first | refine wk ?_ | refine wc ?_ ?_ <;> intro h <;> try omega | fail
 refine t_loop (fun m env S => ∃ (i : Nat) (a' : Option Addr) (c' n' : Nat), i ≤ ns.length ∧ m = ns.length - i ∧ n' = n + i * w ∧ env = [(0, .slice a' n' c'), (1, .int .i64 (w : Int)), (11, .slice na ns.length kc), (12, .int .i64 (ns.length : Int)), (13, .int .i64 (i : Int))] ∧ S = [own a' n' c' 5 1 (vb (bs ++ encs w (ns.take i))), A]) ns.length _ _
  ⟨0, a, c, n, by omega, by omega, by omega, rfl, by simp [encs]⟩ (lessL.less ⟨rfl, rfl, rfl, rfl, rfl, trivial⟩) (Ent.refl _) ?_
 rintro m env S ⟨i, a', c', n', hi, rfl, hn', rfl, rfl⟩
 have hnl : ns.length ≤ ns.length * w := Nat.le_mul_of_pos_right _ hw1
 by_cases hin : i < ns.length
 ·obtain ⟨hx1, hx2, hx3⟩ := hns _ (List.getElem_mem hin)
  have hiw : i * w + w ≤ ns.length * w := by
   have := Nat.mul_le_mul_right w (show i + 1 ≤ ns.length from hin)
   rw [Nat.add_mul] at this; omega
  refine t_pure (fun h hs => hA.some (S := []) (by omega) h (star_drop hs)) ?_
  rintro ⟨b0, off, rfl⟩
  repeat' first | refine wk ?_ | refine wc ?_ ?_ <;> intro h <;> try omega | refine l_qs (by exact q_loadRd (j := i) (f := 0) (r := [.int .i64 ns[i]]) (hA.up xpkd) rfl (by omega) rfl rfl (by simp [intsL, List.getElem?_eq_getElem hin]) rfl) rfl ?_ | fail
  ·have h2 : ns[i] = -1 := by assumption
   have he : enc ns[i] = 4294967295 := by rw [enc, if_pos h2]
   refine c_call (s_leBytes 4294967295 w hw1 (by omega) (by rw [← he]; exact hx3) (by omega)) rfl .nil rfl rfl ?_
   rintro v S ⟨b2, rfl, rfl⟩
   refine l_tell rfl ?_
   repeat' first | refine wk ?_ | refine wc ?_ ?_ <;> intro h <;> try omega | fail
   refine c_append rfl rfl xhol (own_rds xfnd) rfl rfl rfl rfl rfl (by show (n' + w) * 1 ≤ _; omega) (by omega) rfl fun a2 c2 => ?_
   refine l_tell rfl ?_
   have hcat : vb (bs ++ encs w (ns.take i)) ++ vb (leB 4294967295 w) = vb (bs ++ encs w (ns.take (i + 1))) := by rw [encs_take _ _ _ hin, he, vb_app, List.append_assoc]
   rw [hcat]
   repeat' first | refine wk ?_ | refine wc ?_ ?_ <;> intro h <;> try omega | fail
   exact ⟨rfl, ns.length - (i + 1), _, _, by omega, ⟨i + 1, a2, c2, n' + w, by omega, rfl, by rw [hn', Nat.add_mul]; omega, rfl, rfl⟩, xlss, Ent.pick xpkd⟩
  ·have h2 : ¬ ns[i] = -1 := by assumption
   have he : ns[i] = (enc ns[i] : Int) := by rw [enc, if_neg h2]; omega
   refine c_call (s_leBytes (enc ns[i]) w hw1 (by omega) hx3 (by omega)) (by rw [← he]; rfl) .nil rfl rfl ?_
   rintro v S ⟨b2, rfl, rfl⟩
   refine l_tell rfl ?_
   repeat' first | refine wk ?_ | refine wc ?_ ?_ <;> intro h <;> try omega | fail
   refine c_append rfl rfl xhol (own_rds xfnd) rfl rfl rfl rfl rfl (by show (n' + w) * 1 ≤ _; omega) (by omega) rfl fun a2 c2 => ?_
   refine l_tell rfl ?_
   have hcat : vb (bs ++ encs w (ns.take i)) ++ vb (leB (enc ns[i]) w) = vb (bs ++ encs w (ns.take (i + 1))) := by rw [encs_take _ _ _ hin, vb_app, List.append_assoc]
   rw [hcat]
   repeat' first | refine wk ?_ | refine wc ?_ ?_ <;> intro h <;> try omega | fail
   exact ⟨rfl, ns.length - (i + 1), _, _, by omega, ⟨i + 1, a2, c2, n' + w, by omega, rfl, by rw [hn', Nat.add_mul]; omega, rfl, rfl⟩, xlss, Ent.pick xpkd⟩
 ·have e : i = ns.length := by omega
  subst e
  repeat' first | refine wk ?_ | refine wc ?_ ?_ <;> intro h <;> try omega | fail
  exact b_ret _ rfl (Ent.refl _) ⟨a', c', by rw [hn']; rfl, by rw [List.take_length, hn']⟩
def pcB (p : Pc) : List Nat := leB p.s 1 ++ (leB p.a 4 ++ leB p.n 4 ++ leB (enc p.l) 4)
def leafB (ps : List Pc) : List Nat := leB ps.length 1 ++ ps.flatMap pcB
theorem pcB_len (p : Pc) : (pcB p).length = 13 := by simp [pcB, leB_len]
theorem pcsB_len (ps : List Pc) : (ps.flatMap pcB).length = 13 * ps.length := by
 induction ps with
 | nil => rfl
 | cons p ps ih => rw [List.flatMap_cons, List.length_append, ih, pcB_len, List.length_cons]; omega
theorem leafB_len (ps : List Pc) : (leafB ps).length = 1 + 13 * ps.length := by rw [leafB, List.length_append, leB_len, pcsB_len]
theorem leafB_lt (ps : List Pc) : ∀ b ∈ leafB ps, b < 256 := by
 intro b hb
 simp only [leafB, pcB, List.mem_append, List.mem_flatMap] at hb
 rcases hb with hb | ⟨p, _, hb | (hb | hb) | hb⟩ <;> exact leB_lt _ _ b hb
theorem ent_nil (e z : Nat) (S : List Asn) : Ent S (own none 0 0 e z [] :: S) := fun h hs => by
 refine (Ent.fold (L := []) (fun x _ => ?_)) h hs
 exact ⟨rfl, fun _ h => (by cases h), Nat.le_refl _, by omega, .inl ⟨rfl, rfl⟩⟩
theorem enc_nat (m : Nat) : enc (m : Int) = m := by rw [enc, if_neg (by omega)]; omega
theorem encs_one (m w : Nat) : encs w [(m : Int)] = leB m w := by simp [encs, enc_nat]
theorem encs_three (a b : Nat) (c : Int) : encs 4 [(a : Int), (b : Int), c] = leB a 4 ++ leB b 4 ++ leB (enc c) 4 := by simp [encs, enc_nat]
theorem enc_lt {l : Int} (h1 : -1 ≤ l) (h2 : l ≤ 16777216) : enc l < 4294967296 := by unfold enc; split <;> omega
theorem s_nodePack (A : Asn) (a : Option Addr) (n c : Nat) (ps : List Pc) (hA : PcRd A a n ps) (hl : ps.length = n) (h1 : 1 ≤ n) (h2 : n ≤ 12) (ho : ∀ p ∈ ps, p.ok) (hs : sumN ps ≤ 1048576) :
  Spec Tryz.prog 284 [.agg #[.bool true, .slice a n c, .slice none 0 0]] [A] (fun v S => ∃ a' c', v = .tuple #[.int .i64 1, .slice a' (1 + 13 * n) c', .int .i64 0] ∧ S = [own a' (1 + 13 * n) c' 5 1 (vb (leafB ps)), A]) := by
 refine spec_of Tryz.func284 rfl Tryz.results284 Tryz.ntmps284 rfl ?_
 refine t_pure (hA.some (by omega)) ?_
 rintro ⟨b0, off, rfl⟩
 subst hl
 repeat' first | refine wb fun _ => ?_ | refine wk ?_ | refine wc ?_ ?_ <;> intro h <;> try omega | fail
 refine c_call (s_nodeMay A _ _ c ps hA rfl h1 h2 ho hs) rfl xpkd rfl rfl ?_
 rintro v S ⟨rfl, rfl⟩
 refine l_tell rfl ?_
 repeat' first | refine wk ?_ | refine wc ?_ ?_ <;> intro h <;> try omega | fail
 refine o_buildSlice rfl rfl rfl rfl rfl rfl rfl rfl rfl rfl rfl rfl fun pb => ?_
 refine l_ent (ent_nil 5 1 _) ?_
 repeat' first | refine wk ?_ | refine wc ?_ ?_ <;> intro h <;> try omega | fail
 refine c_call (s_nodePut (own (some ⟨pb, 0, none⟩) 1 1 3 1 [[.int .i64 (ps.length : Int)]]) none (some ⟨pb, 0, none⟩) 0 0 1 1 1 [] [(ps.length : Int)] (Rds.own 0 rfl) rfl (by omega) (by omega) rfl (by omega) ?_) rfl xpkd rfl rfl ?_
 ·intro x hx
  rcases List.mem_cons.1 hx with rfl | hx
  ·refine ⟨by omega, by omega, ?_⟩
   rw [enc, if_neg (by omega)]; show _ < 256; omega
  ·cases hx
 rintro v S ⟨a1, c1, rfl, rfl⟩
 refine l_tell rfl ?_
 repeat' first | refine wk ?_ | refine wc ?_ ?_ <;> intro h <;> try omega | fail
 rw [List.nil_append, encs_one]
 refine t_loop (fun m env S => ∃ (i : Nat) (a1 : Option Addr) (c1 n1 : Nat), i ≤ ps.length ∧ m = ps.length - i ∧ n1 = 1 + 13 * i ∧ env = [(3, .slice a1 n1 c1), (21, .slice (some ⟨b0, off, none⟩) ps.length c), (22, .int .i64 (ps.length : Int)), (23, .int .i64 (i : Int))] ∧ S = [own a1 n1 c1 5 1 (vb (leB ps.length 1 ++ (ps.take i).flatMap pcB)), A]) ps.length _ _
  ⟨0, a1, c1, 1, by omega, by omega, by omega, rfl, rfl⟩ xlss (by simp only [List.take_zero, List.flatMap_nil, List.append_nil]; exact Ent.pick xpkd) ?_
 rintro m env S ⟨i, a1, c1, n1, hi, rfl, rfl, rfl, rfl⟩
 by_cases hin : i < ps.length
 ·have hp := ho _ (List.getElem_mem hin)
  obtain ⟨p1, p2, p3, p4, p5, p6, p7⟩ := hp
  have hlen : (leB ps.length 1 ++ (ps.take i).flatMap pcB).length = 1 + 13 * i := by
   rw [List.length_append, leB_len, pcsB_len, List.length_take]; omega
  have hlen2 : (leB ps.length 1 ++ (ps.take i).flatMap pcB ++ encs 1 [(ps[i].s : Int)]).length = 1 + 13 * i + 1 * 1 := by
   rw [List.length_append, hlen, encs_len]; rfl
  have hI1 : ∀ x ∈ [(ps[i].s : Int)], -1 ≤ x ∧ x ≤ 1152921504606 ∧ enc x < 256 ^ 1 := by
   intro x hx
   rcases List.mem_cons.1 hx with rfl | hx
   ·refine ⟨by omega, by omega, ?_⟩; rw [enc_nat]; show _ < 256; omega
   ·cases hx
  have hI2 : ∀ x ∈ [(ps[i].a : Int), (ps[i].n : Int), ps[i].l], -1 ≤ x ∧ x ≤ 1152921504606 ∧ enc x < 256 ^ 4 := by
   intro x hx
   rcases List.mem_cons.1 hx with rfl | hx
   ·exact ⟨by omega, by omega, enc_lt (by omega) (by omega)⟩
   rcases List.mem_cons.1 hx with rfl | hx
   ·exact ⟨by omega, by omega, enc_lt (by omega) (by omega)⟩
   rcases List.mem_cons.1 hx with rfl | hx
   ·exact ⟨by omega, by omega, enc_lt (by omega) (by omega)⟩
   ·cases hx
  have hcat : leB ps.length 1 ++ (ps.take i).flatMap pcB ++ encs 1 [(ps[i].s : Int)] ++ encs 4 [(ps[i].a : Int), (ps[i].n : Int), ps[i].l] = leB ps.length 1 ++ (ps.take (i + 1)).flatMap pcB := by
   rw [List.take_add_one, List.getElem?_eq_getElem hin, List.flatMap_append, encs_one, encs_three]
   simp [pcB]
  repeat' first | refine wb fun _ => ?_ | refine wk ?_ | refine wc ?_ ?_ <;> intro h <;> try omega | refine l_qs (by exact q_loadRdA (j := i) (hA.up xpkd) rfl rfl rfl rfl rfl (pcs_get hin)) rfl ?_ | refine d_qs rfl (by exact q_loadRdA (j := i) (hA.up xpkd) rfl rfl rfl rfl rfl (pcs_get hin)) rfl ?_ | refine d_gqs rfl rfl (by exact q_loadRdA (j := i) (hA.up xpkd) rfl rfl rfl rfl rfl (pcs_get hin)) rfl ?_ | (refine n_eff ?_ ?_; · (repeat first | refine wre ?_ | refine r_cons rfl (by first | exact q_loadRdA (j := i) (hA.up xpkd) rfl rfl rfl rfl rfl (pcs_get hin) | fail) rfl ?_ | refine r_gcons rfl rfl (by first | exact q_loadRdA (j := i) (hA.up xpkd) rfl rfl rfl rfl rfl (pcs_get hin) | fail) rfl ?_ | exact r_nil | fail)) | fail
  refine t_draw (.eval 0 true (.eval 1 true (.eval 2 true (.eval 3 false (.eval 6 true (.eval 7 true (.eval 8 false (.eval 9 true (.eval 10 true (.eval 11 false (.eval 12 true (.eval 13 false (.eff 4 [8, 11, 13] (.eff 5 [3, 8, 11, 13] (.eff 14 [3] (.eff 15 [3, 8, 11, 13] (.eff 16 [] .fin .stop) .stop) .stop) (.eff 14 [3] (.eff 5 [3, 8, 11, 13] (.eff 15 [3, 8, 11, 13] (.eff 16 [] .fin .stop) .stop) .stop) .stop)) (.eff 14 [3] (.eff 4 [8, 11, 13] (.eff 5 [3, 8, 11, 13] (.eff 15 [3, 8, 11, 13] (.eff 16 [] .fin .stop) .stop) .stop) .stop) .stop)))))))))))))) rfl (by kernel_rfl) ?_
  repeat' first | refine wk ?_ | refine wc ?_ ?_ <;> intro h <;> try omega | fail
  refine d_eff rfl ?_ ?_
  ·refine o_buildSlice rfl rfl rfl rfl rfl rfl rfl rfl rfl rfl rfl rfl fun pb1 => ?_
   repeat' first | refine wk ?_ | refine wc ?_ ?_ <;> intro h <;> try omega | fail
   refine d_eff rfl ?_ ?_
   ·refine c_call (s_nodePut (own (some ⟨pb1, 0, none⟩) 1 1 3 1 [[.int .i64 (ps[i].s : Int)]]) a1 (some ⟨pb1, 0, none⟩) (1 + 13 * i) c1 1 1 1 (leB ps.length 1 ++ (ps.take i).flatMap pcB) [(ps[i].s : Int)] (Rds.own 0 rfl) rfl (by omega) (by omega) hlen (by omega) hI1) rfl xpkd rfl rfl ?_
    rintro v S ⟨a2, c2, rfl, rfl⟩
    refine l_tell rfl ?_
    repeat' first | refine wk ?_ | refine wc ?_ ?_ <;> intro h <;> try omega | fail
    refine o_buildSlice rfl rfl rfl rfl rfl rfl rfl rfl rfl rfl rfl rfl fun pb2 => ?_
    repeat' first | refine wk ?_ | refine wc ?_ ?_ <;> intro h <;> try omega | fail
    refine c_call (s_nodePut (own (some ⟨pb2, 0, none⟩) 3 3 3 1 [[.int .i64 (ps[i].a : Int)], [.int .i64 (ps[i].n : Int)], [.int .i64 ps[i].l]]) a2 (some ⟨pb2, 0, none⟩) (1 + 13 * i + 1 * 1) c2 3 3 4 (leB ps.length 1 ++ (ps.take i).flatMap pcB ++ encs 1 [(ps[i].s : Int)]) [(ps[i].a : Int), (ps[i].n : Int), ps[i].l] (Rds.own 0 rfl) rfl (by omega) (by omega) hlen2 (by omega) hI2) rfl xpkd rfl rfl ?_
    rintro v S ⟨a3, c3, rfl, rfl⟩
    refine l_tell rfl ?_
    rw [hcat]
    repeat' first | refine wk ?_ | refine wc ?_ ?_ <;> intro h <;> try omega | fail
    exact ⟨rfl, ps.length - (i + 1), _, _, by omega, ⟨i + 1, a3, c3, 1 + 13 * i + 1 * 1 + 3 * 4, by omega, rfl, by omega, rfl, rfl⟩, xlss, Ent.pick xpkd⟩
   ·repeat' first | refine wk ?_ | refine wc ?_ ?_ <;> intro h <;> try omega | fail
    refine o_buildSlice rfl rfl rfl rfl rfl rfl rfl rfl rfl rfl rfl rfl fun pb2 => ?_
    repeat' first | refine wk ?_ | refine wc ?_ ?_ <;> intro h <;> try omega | fail
    refine c_call (s_nodePut (own (some ⟨pb1, 0, none⟩) 1 1 3 1 [[.int .i64 (ps[i].s : Int)]]) a1 (some ⟨pb1, 0, none⟩) (1 + 13 * i) c1 1 1 1 (leB ps.length 1 ++ (ps.take i).flatMap pcB) [(ps[i].s : Int)] (Rds.own 0 rfl) rfl (by omega) (by omega) hlen (by omega) hI1) rfl xpkd rfl rfl ?_
    rintro v S ⟨a2, c2, rfl, rfl⟩
    refine l_tell rfl ?_
    repeat' first | refine wk ?_ | refine wc ?_ ?_ <;> intro h <;> try omega | fail
    refine c_call (s_nodePut (own (some ⟨pb2, 0, none⟩) 3 3 3 1 [[.int .i64 (ps[i].a : Int)], [.int .i64 (ps[i].n : Int)], [.int .i64 ps[i].l]]) a2 (some ⟨pb2, 0, none⟩) (1 + 13 * i + 1 * 1) c2 3 3 4 (leB ps.length 1 ++ (ps.take i).flatMap pcB ++ encs 1 [(ps[i].s : Int)]) [(ps[i].a : Int), (ps[i].n : Int), ps[i].l] (Rds.own 0 rfl) rfl (by omega) (by omega) hlen2 (by omega) hI2) rfl xpkd rfl rfl ?_
    rintro v S ⟨a3, c3, rfl, rfl⟩
    refine l_tell rfl ?_
    rw [hcat]
    repeat' first | refine wk ?_ | refine wc ?_ ?_ <;> intro h <;> try omega | fail
    exact ⟨rfl, ps.length - (i + 1), _, _, by omega, ⟨i + 1, a3, c3, 1 + 13 * i + 1 * 1 + 3 * 4, by omega, rfl, by omega, rfl, rfl⟩, xlss, Ent.pick xpkd⟩
  ·repeat' first | refine wk ?_ | refine wc ?_ ?_ <;> intro h <;> try omega | fail
   refine o_buildSlice rfl rfl rfl rfl rfl rfl rfl rfl rfl rfl rfl rfl fun pb2 => ?_
   repeat' first | refine wk ?_ | refine wc ?_ ?_ <;> intro h <;> try omega | fail
   refine o_buildSlice rfl rfl rfl rfl rfl rfl rfl rfl rfl rfl rfl rfl fun pb1 => ?_
   repeat' first | refine wk ?_ | refine wc ?_ ?_ <;> intro h <;> try omega | fail
   refine c_call (s_nodePut (own (some ⟨pb1, 0, none⟩) 1 1 3 1 [[.int .i64 (ps[i].s : Int)]]) a1 (some ⟨pb1, 0, none⟩) (1 + 13 * i) c1 1 1 1 (leB ps.length 1 ++ (ps.take i).flatMap pcB) [(ps[i].s : Int)] (Rds.own 0 rfl) rfl (by omega) (by omega) hlen (by omega) hI1) rfl xpkd rfl rfl ?_
   rintro v S ⟨a2, c2, rfl, rfl⟩
   refine l_tell rfl ?_
   repeat' first | refine wk ?_ | refine wc ?_ ?_ <;> intro h <;> try omega | fail
   refine c_call (s_nodePut (own (some ⟨pb2, 0, none⟩) 3 3 3 1 [[.int .i64 (ps[i].a : Int)], [.int .i64 (ps[i].n : Int)], [.int .i64 ps[i].l]]) a2 (some ⟨pb2, 0, none⟩) (1 + 13 * i + 1 * 1) c2 3 3 4 (leB ps.length 1 ++ (ps.take i).flatMap pcB ++ encs 1 [(ps[i].s : Int)]) [(ps[i].a : Int), (ps[i].n : Int), ps[i].l] (Rds.own 0 rfl) rfl (by omega) (by omega) hlen2 (by omega) hI2) rfl xpkd rfl rfl ?_
   rintro v S ⟨a3, c3, rfl, rfl⟩
   refine l_tell rfl ?_
   rw [hcat]
   repeat' first | refine wk ?_ | refine wc ?_ ?_ <;> intro h <;> try omega | fail
   exact ⟨rfl, ps.length - (i + 1), _, _, by omega, ⟨i + 1, a3, c3, 1 + 13 * i + 1 * 1 + 3 * 4, by omega, rfl, by omega, rfl, rfl⟩, xlss, Ent.pick xpkd⟩
 ·have e : i = ps.length := by omega
  subst e
  repeat' first | refine wk ?_ | refine wc ?_ ?_ <;> intro h <;> try omega | fail
  exact b_ret [own a1 (1 + 13 * ps.length) c1 5 1 (vb (leafB ps)), A] rfl (by rw [List.take_length]; exact Ent.pick xpkd) ⟨a1, c1, rfl, rfl⟩
theorem s_nodeFour (r : Nat) (a : Option Addr) (c : Nat) (bs : List Nat) (p : Nat) (l : Int) (hb : ∀ b ∈ bs, b < 256) (hp : p + 4 ≤ bs.length) (hl : bs.length ≤ 1152921504606) (h1 : -1 ≤ l) (h2 : l ≤ 16777216) (he : (bs.drop p).take 4 = leB (enc l) 4) :
  Spec Tryz.prog 283 [.pointer (some ⟨r, 0, none⟩)] (rdL r a c bs p) (fun v S => v = .int .i64 l ∧ S = rdL r a c bs (p + 4)) := by
 refine spec_of Tryz.func283 rfl Tryz.results283 Tryz.ntmps283 rfl ?_
 refine t_tell (S' := [_, _]) rfl ?_
 repeat' first | refine wk ?_ | refine wc ?_ ?_ <;> intro h <;> try omega | fail
 refine c_call (s_rdInt r a c bs p 4 hb (by omega) (by omega) hp hl) rfl xpkd rfl rfl ?_
 rintro v S ⟨rfl, rfl⟩
 rw [he, leN_leB, Nat.mod_eq_of_lt (show _ < 256 ^ 4 from enc_lt h1 h2)]
 refine l_tell rfl ?_
 repeat' first | refine wk ?_ | refine wc ?_ ?_ <;> intro h <;> try omega | fail
 ·refine b_ret (rdL r a c bs (p + 4)) rfl (Ent.pick xpkd) ⟨?_, rfl⟩
  have : l = -1 := by unfold enc at h; split at h <;> omega
  rw [this]; rfl
 ·refine b_ret (rdL r a c bs (p + 4)) rfl (Ent.pick xpkd) ⟨?_, rfl⟩
  have : (enc l : Int) = l := by unfold enc at h ⊢; split at h <;> split <;> omega
  show Value.int .i64 _ = _
  rw [this]
theorem pcsB_drop (ps : List Pc) (i : Nat) (hi : i < ps.length) : ((leafB ps).drop (1 + 13 * i)).take 13 = pcB ps[i] := by
 unfold leafB
 rw [List.drop_append, List.drop_of_length_le (by rw [leB_len]; omega), List.nil_append, leB_len, Nat.add_sub_cancel_left]
 have h1 : ps.flatMap pcB = (ps.take i).flatMap pcB ++ (pcB ps[i] ++ (ps.drop (i + 1)).flatMap pcB) := by
  conv => lhs; rw [← List.take_append_drop i ps, List.drop_eq_getElem_cons hi]
  rw [List.flatMap_append, List.flatMap_cons]
 rw [h1, List.drop_append, List.drop_of_length_le (by rw [pcsB_len, List.length_take]; omega), List.nil_append, pcsB_len, List.length_take]
 rw [show 13 * i - 13 * min i ps.length = 0 by omega, List.drop_zero, List.take_append_of_le_length (by rw [pcB_len]; omega), List.take_of_length_le (by rw [pcB_len]; omega)]
theorem pcsB_at (ps : List Pc) (i q k : Nat) (hi : i < ps.length) (hq : q + k ≤ 13) : ((leafB ps).drop (1 + 13 * i + q)).take k = ((pcB ps[i]).drop q).take k := by
 rw [← pcsB_drop ps i hi, List.drop_take, List.drop_drop, List.take_take, Nat.min_eq_left (by omega)]
end Go.Ox
end
