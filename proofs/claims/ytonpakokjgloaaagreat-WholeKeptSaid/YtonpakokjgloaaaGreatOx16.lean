/- WholeKept, part 16. No condition. -/
import Derived.LaidEqlPtr
import Derived.Test.YtonpakokjgloaaaGreatOx12
import Derived.Test.YtonpakokjgloaaaGreatOx13
import Derived.Test.YtonpakokjgloaaaGreatOx15
set_option linter.all false
section
set_option maxRecDepth 100000
set_option maxHeartbeats 800000
namespace Go.Ox
open Go Go.Proofs
theorem s_nodeOpen (A : Asn) (a : Option Addr) (n c : Nat) (ps : List Pc) (hA : Rds [A] a n 1 (vb (leafB ps))) (hl : (leafB ps).length = n) (h1 : 1 ≤ ps.length) (h2 : ps.length ≤ 12) (ho : ∀ p ∈ ps, p.ok) (hs : sumN ps ≤ 1048576) :
  Spec Tryz.prog 211 [.int .i64 1, .slice a n c] [A] (fun v S => ∃ a' c', v = .tuple #[.agg #[.bool true, .slice a' ps.length c', .slice none 0 0], .int .i64 0] ∧ S = [own a' ps.length c' 88 4 (pcs ps), A]) := by
 refine spec_of_d Tryz.func211 rfl Tryz.results211 Tryz.ntmps211 rfl ?_
 have hlen := leafB_len ps
 have hlt := leafB_lt ps
 refine t_tell rfl ?_
 repeat' first | refine wk ?_ | refine wc ?_ ?_ <;> intro h <;> try omega | fail
 refine o_alloc rfl rfl fun b4 => ?_
 repeat' first | refine wk ?_ | refine wc ?_ ?_ <;> intro h <;> try omega | fail
 refine c_call (s_leOn A a n c (leafB ps) hA (by omega) hl) rfl xpkd rfl rfl ?_
 rintro v S ⟨r, a', c', rfl, rfl⟩
 refine l_tell rfl ?_
 repeat' first | refine wk ?_ | refine wc ?_ ?_ <;> intro h <;> try omega | fail
 refine c_call (s_rdInt r a' c' (leafB ps) 0 1 hlt (by omega) (by omega) (by omega) (by omega)) rfl xpkd rfl rfl ?_
 rintro v S ⟨rfl, rfl⟩
 have hn1 : ((leafB ps).drop 0).take 1 = [ps.length] := by rw [leafB, leB_1, Nat.mod_eq_of_lt (by omega)]; rfl
 have hkN : (leN [ps.length] : Int) = ps.length := by simp [leN]
 rw [hn1, hkN]
 refine l_tell rfl ?_
 repeat' first | refine wk ?_ | refine wc ?_ ?_ <;> intro h <;> try omega | fail
 refine o_alloc rfl rfl fun b9 => ?_
 repeat' first | refine wk ?_ | refine wc ?_ ?_ <;> intro h <;> try omega | fail
 refine c_call (s_rdLeft r a' c' (leafB ps) (0 + 1) (by omega) (by omega)) rfl xpkd rfl rfl ?_
 rintro v S ⟨rfl, rfl⟩
 refine l_tell rfl ?_
 repeat' first | refine wk ?_ | refine wc ?_ ?_ <;> intro h <;> try omega | fail
 refine t_ent (ent_nil 88 4 _) ?_
 refine t_loop (fun m env S => ∃ (i : Nat) (a1 : Option Addr) (c1 : Nat), i ≤ ps.length ∧ m = ps.length - i ∧ env = [(4, .pointer (some ⟨b4, 0, none⟩)), (6, .pointer (some ⟨r, 0, none⟩)), (9, .pointer (some ⟨b9, 0, none⟩)), (48, .int .i64 (ps.length : Int)), (49, .int .i64 (i : Int))] ∧ S = rdL r a' c' (leafB ps) (1 + 13 * i) ++ [own a1 i c1 88 4 (pcs (ps.take i)), cellsAt b9 224 [.bool true, .slice a1 i c1, .slice none 0 0], cellsAt b4 224 i224.zero, A]) ps.length _ _
  ⟨0, none, 0, by omega, by omega, rfl, rfl⟩ xlss (Ent.pick xpkd) ?_
 rintro m env S ⟨i, a1, c1, hi, rfl, rfl, rfl⟩
 refine t_tell rfl ?_
 by_cases hin : i < ps.length
 ·have hp := ho _ (List.getElem_mem hin)
  obtain ⟨p1, p2, p3, p4, p5, p6, p7⟩ := hp
  have hs1 : ((leafB ps).drop (1 + 13 * i)).take 1 = [ps[i].s] := by
   have := pcsB_at ps i 0 1 hin (by omega)
   rw [Nat.add_zero] at this
   rw [this]; simp only [pcB, leB_1]; rw [Nat.mod_eq_of_lt (by omega)]; rfl
  have hs2 : ((leafB ps).drop (1 + 13 * i + 1)).take 4 = leB (enc (ps[i].a : Int)) 4 := by
   rw [pcsB_at ps i 1 4 hin (by omega), enc_nat]; simp only [pcB, leB_1, leB_4]; rfl
  have hs3 : ((leafB ps).drop (1 + 13 * i + 1 + 4)).take 4 = leB (enc (ps[i].n : Int)) 4 := by
   rw [Nat.add_assoc (1 + 13 * i), pcsB_at ps i 5 4 hin (by omega), enc_nat]; simp only [pcB, leB_1, leB_4]; rfl
  have hs4 : ((leafB ps).drop (1 + 13 * i + 1 + 4 + 4)).take 4 = leB (enc ps[i].l) 4 := by
   rw [Nat.add_assoc (1 + 13 * i), Nat.add_assoc (1 + 13 * i), pcsB_at ps i 9 4 hin (by omega)]; simp only [pcB, leB_1, leB_4]; rfl
  have hkS : (leN [ps[i].s] : Int) = ps[i].s := by simp [leN]
  repeat' first | refine wk ?_ | refine wc ?_ ?_ <;> intro h <;> try omega | fail
  refine c_call (s_rdInt r a' c' (leafB ps) (1 + 13 * i) 1 hlt (by omega) (by omega) (by omega) (by omega)) rfl xpkd rfl rfl ?_
  rintro v S ⟨rfl, rfl⟩
  rw [hs1, hkS]
  refine l_tell rfl ?_
  repeat' first | refine wk ?_ | refine wc ?_ ?_ <;> intro h <;> try omega | fail
  refine c_call (s_nodeFour r a' c' (leafB ps) (1 + 13 * i + 1) (ps[i].a : Int) hlt (by omega) (by omega) (by omega) (by omega) hs2) rfl xpkd rfl rfl ?_
  rintro v S ⟨rfl, rfl⟩
  refine l_tell rfl ?_
  repeat' first | refine wk ?_ | refine wc ?_ ?_ <;> intro h <;> try omega | fail
  refine c_call (s_nodeFour r a' c' (leafB ps) (1 + 13 * i + 1 + 4) (ps[i].n : Int) hlt (by omega) (by omega) (by omega) (by omega) hs3) rfl xpkd rfl rfl ?_
  rintro v S ⟨rfl, rfl⟩
  refine l_tell rfl ?_
  repeat' first | refine wk ?_ | refine wc ?_ ?_ <;> intro h <;> try omega | fail
  refine t_draw (.eval 0 true (.eval 1 false (.eval 2 true (.eval 3 true (.eval 4 true (.eval 5 true (.eval 6 true (.eff 7 [1] (.eval 8 true (.eff 9 [1] (.eff 10 [] (.eval 11 true (.eff 12 [] .fin .stop)) .stop) .stop)) .stop)))))))) rfl (by kernel_rfl) ?_
  repeat' first | refine wk ?_ | refine wc ?_ ?_ <;> intro h <;> try omega | fail
  refine c_call (s_nodeFour r a' c' (leafB ps) (1 + 13 * i + 1 + 4 + 4) ps[i].l hlt (by omega) (by omega) (by omega) (by omega) hs4) rfl xpkd rfl rfl ?_
  rintro v S ⟨rfl, rfl⟩
  refine l_tell rfl ?_
  repeat' first | refine wk ?_ | refine wc ?_ ?_ <;> intro h <;> try omega | fail
  refine o_buildSlice rfl rfl rfl rfl rfl rfl rfl rfl rfl rfl rfl rfl fun pb => ?_
  repeat' first | refine wk ?_ | refine wc ?_ ?_ <;> intro h <;> try omega | fail
  refine c_append rfl rfl xhol (own_rds xfnd) rfl rfl rfl rfl rfl (by show (i + 1) * 32 ≤ _; omega) (by omega) rfl fun a2 c2 => ?_
  have hcat : pcs (ps.take i) ++ [ps[i].cells] = pcs (ps.take (i + 1)) := by unfold pcs; rw [List.take_add_one, List.getElem?_eq_getElem hin, List.map_append]; rfl
  refine l_tell rfl ?_
  refine l_same [_, _, _, own a2 (i + 1) c2 88 4 (pcs (ps.take (i + 1))), _, _, _] (by rw [← hcat]; rfl) ?_
  repeat' first | refine wk ?_ | refine wc ?_ ?_ <;> intro h <;> try omega | fail
  exact ⟨rfl, ps.length - (i + 1), _, _, by omega, ⟨i + 1, a2, c2, by omega, rfl, rfl, rfl⟩, xlss, Ent.pick xpkd⟩
 ·have e : i = ps.length := by omega
  subst e
  repeat' first | refine wk ?_ | refine wc ?_ ?_ <;> intro h <;> try omega | fail
  rw [List.take_length]
  refine c_call (s_nodeMay (own a1 ps.length c1 88 4 (pcs ps)) a1 ps.length c1 ps (Rds.own 0 rfl) rfl h1 h2 ho hs) rfl xpkd rfl rfl ?_
  rintro v S ⟨rfl, rfl⟩
  refine l_tell rfl ?_
  repeat' first | refine wk ?_ | refine wc ?_ ?_ <;> intro h <;> try omega | fail
  refine bd_ret (out_nil [own a1 ps.length c1 88 4 (pcs ps), A] (.cons (.cell fun N D => c_loadA rfl xfnd rfl rfl rfl) (.cons (.tmp rfl) .nil)) (Ent.pick xpkd) ⟨a1, c1, rfl, rfl⟩)
def addL (x l : Int) : Int := if l < 0 ∨ x < 0 then -1 else x + l
def linesOf (ps : List Pc) : Int := ps.foldl (fun x p => addL x p.l) 0
theorem linesOf_take (ps : List Pc) (i : Nat) (h : i < ps.length) : linesOf (ps.take (i + 1)) = addL (linesOf (ps.take i)) ps[i].l := by
 unfold linesOf; rw [List.take_add_one, List.getElem?_eq_getElem h, List.foldl_append]; rfl
theorem linesOf_in {ps : List Pc} (h : ∀ p ∈ ps, p.ok) : -1 ≤ linesOf ps ∧ linesOf ps ≤ sumN ps := by
 have key : ∀ (ps : List Pc) (x : Int) (m : Nat), (∀ p ∈ ps, p.ok) → -1 ≤ x → x ≤ m → -1 ≤ ps.foldl (fun x p => addL x p.l) x ∧ ps.foldl (fun x p => addL x p.l) x ≤ (m + sumN ps : Nat) := by
  intro ps
  induction ps with
  | nil => intro x m _ h1 h2; simp [sumN]; omega
  | cons p ps ih =>
   intro x m h h1 h2
   have hp := h p (List.mem_cons_self ..)
   obtain ⟨_, _, _, _, h5, h6, _⟩ := hp
   have := ih (addL x p.l) (m + p.n) (fun q hq => h q (List.mem_cons_of_mem _ hq)) (by unfold addL; split <;> omega) (by unfold addL; split <;> omega)
   have e : sumN (p :: ps) = p.n + sumN ps := by simp [sumN]
   rw [e, ← Nat.add_assoc]; exact this
 have := key ps 0 0 h (by omega) (by omega)
 simpa [linesOf] using this
theorem s_sumAdd (b2 b3 b4 b n m : Nat) (l x : Int) (hb : b + n ≤ 1152921504606) (hm : m + 1 ≤ 1152921504606) (hx1 : -1 ≤ x) (hx2 : x ≤ 1152921504606) (hl1 : -1 ≤ l) (hl2 : l ≤ 1152921504606) :
  Spec Tryz.prog 207 [.int .i64 n, .int .i64 l, .int .i64 1, .pointer (some ⟨b2, 0, none⟩), .pointer (some ⟨b4, 0, none⟩), .pointer (some ⟨b3, 0, none⟩)] [cellsAt b2 3 [.int .i64 b], cellsAt b4 3 [.int .i64 m], cellsAt b3 3 [.int .i64 x]]
   (fun v S => S = [cellsAt b2 3 [.int .i64 ((b + n : Nat) : Int)], cellsAt b4 3 [.int .i64 ((m + 1 : Nat) : Int)], cellsAt b3 3 [.int .i64 (addL x l)]]) := by
 refine spec_of Tryz.func207 rfl Tryz.results207 Tryz.ntmps207 rfl ?_
 refine t_seq ?_
 refine t_draw (.eval 0 false (.eval 1 true (.eval 2 true (.eval 3 false (.eval 4 true (.eval 5 true (.eff 6 [3] (.eff 7 [] .fin .stop) .stop))))))) rfl (by kernel_rfl) ?_
 repeat' first | refine wk ?_ | refine wc ?_ ?_ <;> intro h <;> try omega | fail
 ·have e : addL x l = -1 := by unfold addL; rw [if_pos (by omega)]
  exact b_ret _ rfl (Ent.refl _) (by rw [e]; rfl)
 ·have e : addL x l = -1 := by unfold addL; rw [if_pos (by omega)]
  exact b_ret _ rfl (Ent.refl _) (by rw [e]; rfl)
 ·have e : addL x l = x + l := by unfold addL; rw [if_neg (by omega)]
  exact b_end _ rfl (Ent.refl _) (by rw [e]; rfl)
theorem s_nodeSum (A : Asn) (a : Option Addr) (n c : Nat) (ps : List Pc) (hA : PcRd A a n ps) (hl : ps.length = n) (h1 : 1 ≤ n) (h2 : n ≤ 12) (ho : ∀ p ∈ ps, p.ok) (hs : sumN ps ≤ 1048576) :
  Spec Tryz.prog 146 [.agg #[.bool true, .slice a n c, .slice none 0 0]] [A] (fun v S => v = .tuple #[.int .i64 (sumN ps), .int .i64 (linesOf ps), .int .i64 n] ∧ S = [A]) := by
 refine spec_of_d Tryz.func146 rfl Tryz.results146 Tryz.ntmps146 rfl ?_
 refine t_pure (hA.some (by omega)) ?_
 rintro ⟨b0, off, rfl⟩
 subst hl
 refine t_tell rfl ?_
 repeat' first | refine wk ?_ | refine wc ?_ ?_ <;> intro h <;> try omega | fail
 refine o_box rfl rfl rfl fun b1 => ?_
 refine o_alloc rfl rfl fun b2 => ?_
 refine o_alloc rfl rfl fun b3 => ?_
 refine o_alloc rfl rfl fun b4 => ?_
 repeat' first | refine wk ?_ | refine wc ?_ ?_ <;> intro h <;> try omega | fail
 refine c_call (s_nodeMay A _ _ c ps hA rfl h1 h2 ho hs) rfl xpkd rfl rfl ?_
 rintro v S ⟨rfl, rfl⟩
 refine l_tell rfl ?_
 repeat' first | refine wk ?_ | refine wc ?_ ?_ <;> intro h <;> try omega | fail
 refine t_loop (fun m env S => ∃ (i : Nat), i ≤ ps.length ∧ m = ps.length - i ∧ env = [(1, .pointer (some ⟨b1, 0, none⟩)), (2, .pointer (some ⟨b2, 0, none⟩)), (3, .pointer (some ⟨b3, 0, none⟩)), (4, .pointer (some ⟨b4, 0, none⟩)), (5, .func (.func 207) #[] #[.pointer (some ⟨b2, 0, none⟩), .pointer (some ⟨b4, 0, none⟩), .pointer (some ⟨b3, 0, none⟩)]), (15, .slice (some ⟨b0, off, none⟩) ps.length c), (16, .int .i64 (ps.length : Int)), (17, .int .i64 (i : Int))] ∧
   S = [cellsAt b2 3 [.int .i64 ((sumN (ps.take i) : Nat) : Int)], cellsAt b4 3 [.int .i64 (i : Int)], cellsAt b3 3 [.int .i64 (linesOf (ps.take i))], cellsAt b1 224 [.bool true, .slice (some ⟨b0, off, none⟩) ps.length c, .slice none 0 0], A]) ps.length _ _
  ⟨0, by omega, by omega, rfl, rfl⟩ xlss (Ent.pick xpkd) ?_
 rintro m env S ⟨i, hi, rfl, rfl, rfl⟩
 by_cases hin : i < ps.length
 ·have hp := ho _ (List.getElem_mem hin)
  obtain ⟨p1, p2, p3, p4, p5, p6, p7⟩ := hp
  have hs1 := sumN_take_succ ps i hin
  have hs2 := sumN_take_le ps (i + 1)
  have hs0 := sumN_take_le ps i
  have hlo := linesOf_in (ps := ps.take i) (fun p hp => ho p (List.mem_of_mem_take hp))
  repeat' first | refine wb fun _ => ?_ | refine wk ?_ | refine wc ?_ ?_ <;> intro h <;> try omega | refine l_qs (by exact q_loadRdA (j := i) (hA.up xpkd) rfl rfl rfl rfl rfl (pcs_get hin)) rfl ?_ | refine d_qs rfl (by exact q_loadRdA (j := i) (hA.up xpkd) rfl rfl rfl rfl rfl (pcs_get hin)) rfl ?_ | refine d_gqs rfl rfl (by exact q_loadRdA (j := i) (hA.up xpkd) rfl rfl rfl rfl rfl (pcs_get hin)) rfl ?_ | (refine n_eff ?_ ?_; · (repeat first | refine wre ?_ | refine r_cons rfl (by first | exact q_loadRdA (j := i) (hA.up xpkd) rfl rfl rfl rfl rfl (pcs_get hin) | fail) rfl ?_ | refine r_gcons rfl rfl (by first | exact q_loadRdA (j := i) (hA.up xpkd) rfl rfl rfl rfl rfl (pcs_get hin) | fail) rfl ?_ | exact r_nil | fail)) | fail
  refine c_callV (us := []) (vs := [.int .i64 (ps[i].n : Int), .int .i64 ps[i].l, .int .i64 1]) (cs := [.pointer (some ⟨b2, 0, none⟩), .pointer (some ⟨b4, 0, none⟩), .pointer (some ⟨b3, 0, none⟩)]) rfl (s_sumAdd b2 b3 b4 (sumN (ps.take i)) ps[i].n i ps[i].l (linesOf (ps.take i)) (by omega) (by omega) (by omega) (by omega) (by omega) (by omega)) rfl xpkd rfl rfl ?_
  rintro v S rfl
  refine l_tell rfl ?_
  rw [← hs1, ← linesOf_take ps i hin]
  repeat' first | refine wk ?_ | refine wc ?_ ?_ <;> intro h <;> try omega | fail
  exact ⟨rfl, ps.length - (i + 1), _, _, by omega, ⟨i + 1, by omega, rfl, rfl, rfl⟩, xlss, Ent.pick xpkd⟩
 ·have e : i = ps.length := by omega
  subst e
  rw [List.take_length]
  repeat' first | refine wk ?_ | refine wc ?_ ?_ <;> intro h <;> try omega | fail
  refine t_loop0 ?_
  repeat' first | refine wk ?_ | refine wc ?_ ?_ <;> intro h <;> try omega | fail
  refine t_draw (.eval 0 false (.eval 1 false (.eval 2 false (.eff 3 [1, 2] (.eff 4 [2] (.eff 5 [] .fin .stop) .stop) .stop)))) rfl (by kernel_rfl) ?_
  repeat' first | refine wk ?_ | refine wc ?_ ?_ <;> intro h <;> try omega | fail
  exact bd_ret (out_nil [A] (.cons (.cell fun N D => c_load rfl xfnd rfl rfl rfl) (.cons (.cell fun N D => c_load rfl xfnd rfl rfl rfl) (.cons (.cell fun N D => c_load rfl xfnd rfl rfl rfl) .nil))) (Ent.pick xpkd) ⟨rfl, rfl⟩)
end Go.Ox
end
section
set_option maxRecDepth 100000
namespace Go.Ox
open Go Go.Proofs
def isName (s : ByteArray) : Prop := 1 ≤ s.size ∧ s.size ≤ 16 ∧ ∀ (j : Nat) (hj : j < s.size), 97 ≤ (s[j]'hj).toNat ∧ (s[j]'hj).toNat ≤ 122
theorem s_named (s : ByteArray) (hs : isName s) : Spec Tryz.prog 70 [.string s] [] (fun v S => v = .bool true ∧ S = []) := by
 obtain ⟨h1, h2, h3⟩ := hs
 refine spec_of Tryz.func70 rfl Tryz.results70 Tryz.ntmps70 rfl ?_
 repeat' first | refine l_qp (by (apply q_lenStr; exact rfl; exact rfl; exact rfl)) rfl ?_ | refine d_qp rfl (by (apply q_lenStr; exact rfl; exact rfl; exact rfl)) rfl ?_ | refine d_gqp rfl rfl (by (apply q_lenStr; exact rfl; exact rfl; exact rfl)) rfl ?_ | refine l_qp (by (apply q_neqStr; exact rfl; exact rfl)) rfl ?_ | refine d_qp rfl (by (apply q_neqStr; exact rfl; exact rfl)) rfl ?_ | refine d_gqp rfl rfl (by (apply q_neqStr; exact rfl; exact rfl)) rfl ?_ | refine l_qp (by (apply q_eqlStr; exact rfl; exact rfl)) rfl ?_ | refine d_qp rfl (by (apply q_eqlStr; exact rfl; exact rfl)) rfl ?_ | refine d_gqp rfl rfl (by (apply q_eqlStr; exact rfl; exact rfl)) rfl ?_ | refine wk ?_ | refine wc ?_ ?_ <;> intro h <;> try omega | fail
 refine t_loop (fun m env S => ∃ i, i ≤ s.size ∧ m = s.size - i ∧ env = [(0, .string s), (13, .int .i64 (s.size : Int)), (14, .int .i64 (i : Int))] ∧ S = []) s.size _ _ ⟨0, by omega, by omega, rfl, rfl⟩ xlss (Ent.refl _) ?_
 rintro m env S ⟨i, hi, rfl, rfl, rfl⟩
 by_cases hin : i < s.size
 ·have hb := h3 i hin
  repeat' first | refine l_qp (by (apply q_lenStr; exact rfl; exact rfl; exact rfl)) rfl ?_ | refine d_qp rfl (by (apply q_lenStr; exact rfl; exact rfl; exact rfl)) rfl ?_ | refine d_gqp rfl rfl (by (apply q_lenStr; exact rfl; exact rfl; exact rfl)) rfl ?_ | refine l_qp (by (apply q_neqStr; exact rfl; exact rfl)) rfl ?_ | refine d_qp rfl (by (apply q_neqStr; exact rfl; exact rfl)) rfl ?_ | refine d_gqp rfl rfl (by (apply q_neqStr; exact rfl; exact rfl)) rfl ?_ | refine l_qp (by (apply q_eqlStr; exact rfl; exact rfl)) rfl ?_ | refine d_qp rfl (by (apply q_eqlStr; exact rfl; exact rfl)) rfl ?_ | refine d_gqp rfl rfl (by (apply q_eqlStr; exact rfl; exact rfl)) rfl ?_ | refine l_qp (by (apply q_indexStr (hj := hin); exact rfl; exact rfl; exact rfl; exact rfl)) rfl ?_ | refine d_qp rfl (by (apply q_indexStr (hj := hin); exact rfl; exact rfl; exact rfl; exact rfl)) rfl ?_ | refine d_gqp rfl rfl (by (apply q_indexStr (hj := hin); exact rfl; exact rfl; exact rfl; exact rfl)) rfl ?_ | refine wk ?_ | refine wc ?_ ?_ <;> intro h <;> try omega | fail
  exact ⟨rfl, s.size - (i + 1), _, _, by omega, ⟨i + 1, by omega, rfl, rfl, rfl⟩, xlss, Ent.refl _⟩
 ·have e : i = s.size := by omega
  subst e
  repeat' first | refine l_qp (by (apply q_lenStr; exact rfl; exact rfl; exact rfl)) rfl ?_ | refine d_qp rfl (by (apply q_lenStr; exact rfl; exact rfl; exact rfl)) rfl ?_ | refine d_gqp rfl rfl (by (apply q_lenStr; exact rfl; exact rfl; exact rfl)) rfl ?_ | refine l_qp (by (apply q_neqStr; exact rfl; exact rfl)) rfl ?_ | refine d_qp rfl (by (apply q_neqStr; exact rfl; exact rfl)) rfl ?_ | refine d_gqp rfl rfl (by (apply q_neqStr; exact rfl; exact rfl)) rfl ?_ | refine l_qp (by (apply q_eqlStr; exact rfl; exact rfl)) rfl ?_ | refine d_qp rfl (by (apply q_eqlStr; exact rfl; exact rfl)) rfl ?_ | refine d_gqp rfl rfl (by (apply q_eqlStr; exact rfl; exact rfl)) rfl ?_ | refine wk ?_ | refine wc ?_ ?_ <;> intro h <;> try omega | fail
  exact b_ret _ rfl (Ent.refl _) ⟨rfl, rfl⟩
def dkC (d fm room : Nat) (ch lf : Int) (p : Value) : Asn := cellsAt d 123 [.int .i64 room, .int .i64 ch, .int .i64 lf, .bool false, .bool false, .map (some fm), p]
theorem s_change (d fm room : Nat) (ch lf : Int) (p : Value) : Spec Tryz.prog 153 [.pointer (some ⟨d, 0, none⟩)] [dkC d fm room ch lf p] (fun v S => ∃ ch' lf', v = .int .i64 0 ∧ S = [dkC d fm room ch' lf' p]) := by
 refine spec_of Tryz.func153 rfl Tryz.results153 Tryz.ntmps153 rfl ?_
 repeat' first | refine l_qp (by (apply q_arith; exact rfl; exact rfl; exact rfl)) rfl ?_ | refine d_qp rfl (by (apply q_arith; exact rfl; exact rfl; exact rfl)) rfl ?_ | refine d_gqp rfl rfl (by (apply q_arith; exact rfl; exact rfl; exact rfl)) rfl ?_ | refine wk ?_ | refine wc ?_ ?_ <;> intro h <;> try omega | fail
 exact b_ret _ rfl (Ent.refl _) ⟨_, _, rfl, rfl⟩
theorem s_down (d fm room : Nat) (ch lf : Int) (p : Value) : Spec Tryz.prog 185 [.pointer (some ⟨d, 0, none⟩)] [dkC d fm room ch lf p] (fun v S => v = .bool false ∧ S = [dkC d fm room ch lf p]) := by
 refine spec_of Tryz.func185 rfl Tryz.results185 Tryz.ntmps185 rfl ?_
 repeat' first | refine wk ?_ | refine wc ?_ ?_ <;> intro h <;> try omega | fail
 exact b_ret _ rfl (Ent.refl _) ⟨rfl, rfl⟩
structure Fl where
 nm : ByteArray
 b : Nat
 now : List Nat
def ptrF (f : Fl) : Value := .pointer (some ⟨f.b, 0, none⟩)
def flM (fs : List Fl) : List (Value × Value) := fs.map fun f => (.string f.nm, ptrF f)
theorem flM_mem {fs : List Fl} {f : Fl} (h : f ∈ fs) : (Value.string f.nm, ptrF f) ∈ flM fs := List.mem_map_of_mem (f := fun f : Fl => (Value.string f.nm, ptrF f)) h
theorem flM_no {fs : List Fl} {s : ByteArray} (h : ∀ f ∈ fs, f.nm ≠ s) : ∀ p ∈ flM fs, p.1 ≠ Value.string s := by
 intro p hp he
 obtain ⟨f, hf, rfl⟩ := List.mem_map.1 hp
 simp only [Value.string.injEq] at he
 exact h f hf he
theorem s_may (d fm room : Nat) (ch lf : Int) (p : Value) (fs : List Fl) (f : Fl) (there : Bool) (hn : isName f.nm) (hf : f ∈ fs) :
  Spec Tryz.prog 121 [.pointer (some ⟨d, 0, none⟩), .string f.nm, .bool there] [dkC d fm room ch lf p, amap fm .string (flM fs)] (fun v S => v = .tuple #[ptrF f, .int .i64 0] ∧ S = [dkC d fm room ch lf p, amap fm .string (flM fs)]) := by
 refine spec_of Tryz.func121 rfl Tryz.results121 Tryz.ntmps121 rfl ?_
 repeat' first | refine wk ?_ | refine wc ?_ ?_ <;> intro h <;> try omega | fail
 refine c_call (s_named f.nm hn) rfl .nil rfl rfl ?_
 rintro v S ⟨rfl, rfl⟩
 refine l_tell rfl ?_
 repeat' first | refine wk ?_ | refine wc ?_ ?_ <;> intro h <;> try omega | refine l_qs (by exact c_lookup (ok := false) rfl rfl xfnd rfl rfl rfl rfl trivial (flM_mem hf)) rfl ?_ | fail
 exact b_ret _ rfl (Ent.refl _) ⟨rfl, rfl⟩
theorem s_may_no (d fm room : Nat) (ch lf : Int) (p : Value) (fs : List Fl) (s : ByteArray) (there : Bool) (hn : isName s) (hf : ∀ f ∈ fs, f.nm ≠ s) :
  Spec Tryz.prog 121 [.pointer (some ⟨d, 0, none⟩), .string s, .bool there] [dkC d fm room ch lf p, amap fm .string (flM fs)] (fun v S => v = .tuple #[.pointer none, .int .i64 (if there then 6 else 0)] ∧ S = [dkC d fm room ch lf p, amap fm .string (flM fs)]) := by
 refine spec_of Tryz.func121 rfl Tryz.results121 Tryz.ntmps121 rfl ?_
 repeat' first | refine wk ?_ | refine wc ?_ ?_ <;> intro h <;> try omega | fail
 refine c_call (s_named s hn) rfl .nil rfl rfl ?_
 rintro v S ⟨rfl, rfl⟩
 refine l_tell rfl ?_
 cases there
 ·repeat' first | refine wk ?_ | refine wc ?_ ?_ <;> intro h <;> try omega | refine l_qs (by exact c_lookup_no (ok := false) rfl rfl xfnd rfl rfl rfl rfl rfl trivial (flM_no hf)) rfl ?_ | fail
  exact b_ret _ rfl (Ent.refl _) ⟨rfl, rfl⟩
 ·repeat' first | refine wk ?_ | refine wc ?_ ?_ <;> intro h <;> try omega | refine l_qs (by exact c_lookup_no (ok := false) rfl rfl xfnd rfl rfl rfl rfl rfl trivial (flM_no hf)) rfl ?_ | fail
  exact b_ret _ rfl (Ent.refl _) ⟨rfl, rfl⟩
structure FRaw where
 a : Option Addr
 n : Nat
 c : Nat
 a2 : Option Addr
 n2 : Nat
 c2 : Nat
 sf : List Nat
 su : Bool
def filL (b : Nat) (now : List Nat) (r : FRaw) : List Asn := [cellsAt b 129 [.slice r.a r.n r.c, .slice r.a2 r.n2 r.c2, .bool r.su], own r.a r.n r.c 5 1 (vb now), own r.a2 r.n2 r.c2 5 1 (vb r.sf)]
def filC (b : Nat) (now : List Nat) : Asn := fun h => ∃ r : FRaw, now.length = r.n ∧ star (filL b now r) h
def filesC (fs : List Fl) : Asn := fun h => star (fs.map fun f => filC f.b f.now) h
theorem fil_open {b : Nat} {now : List Nat} : ∀ h, filC b now h → ∃ r : FRaw, now.length = r.n ∧ star (filL b now r) h := fun _ h => h
theorem fil_close {b : Nat} {now : List Nat} {r : FRaw} (hr : now.length = r.n) : ∀ h, star (filL b now r) h → filC b now h := fun _ h => ⟨r, hr, h⟩
theorem ent_file (pre post : List Fl) (f : Fl) : Ent [filesC (pre ++ f :: post)] [filC f.b f.now, filesC (pre ++ post)] := fun h hs => by
 have h1 := (Ent.head (A := filesC (pre ++ f :: post)) (L := _) (S := []) (fun _ h => h)) h hs
 rw [List.append_nil, List.map_append, List.map_cons] at h1
 have h2 := Ent.perm List.perm_middle h h1
 rw [← List.map_append] at h2
 refine Ent.cons _ (fun h' hs' => ?_) h h2
 exact (Ent.fold (A := filesC (pre ++ post)) (L := _) (S := []) (fun _ h => h)) h' (by rw [List.append_nil]; exact hs')
theorem ent_file' (pre post : List Fl) (f : Fl) : Ent [filC f.b f.now, filesC (pre ++ post)] [filesC (pre ++ f :: post)] := fun h hs => by
 have h1 := Ent.cons _ (T := (pre ++ post).map fun g : Fl => filC g.b g.now) (fun h' hs' => by
  have := (Ent.head (A := filesC (pre ++ post)) (S := []) (fun _ h => h)) h' hs'
  rwa [List.append_nil] at this) h hs
 rw [List.map_append] at h1
 have h2 := Ent.perm List.perm_middle.symm h h1
 refine (Ent.fold (A := filesC (pre ++ f :: post)) (L := (pre ++ f :: post).map fun g : Fl => filC g.b g.now) (S := []) (fun _ h => h)) h ?_
 rw [List.append_nil, List.map_append, List.map_cons]; exact h2
structure DRaw where
 fm : Nat
 ch : Int
 lf : Int
 pa : Option Addr
 pn : Nat
 pc : Nat
 els : List (List Value)
def pieceOk (x : List Value) : Prop := ∃ s k a n c, x = [.string s, .int .i64 k, .slice a n c]
def dkL (d room : Nat) (fs : List Fl) (r : DRaw) : List Asn := [dkC d r.fm room r.ch r.lf (.slice r.pa r.pn r.pc), amap r.fm .string (flM fs), filesC fs, own r.pa r.pn r.pc 134 3 r.els]
def diskC (d room : Nat) (fs : List Fl) (fu : Nat) : Asn := fun h => ∃ r : DRaw, (r.pn + fu ≤ 1000000000000 ∧ ∀ x ∈ r.els, pieceOk x) ∧ star (dkL d room fs r) h
theorem dk_open {d room fu : Nat} {fs : List Fl} : ∀ h, diskC d room fs fu h → ∃ r : DRaw, (r.pn + fu ≤ 1000000000000 ∧ ∀ x ∈ r.els, pieceOk x) ∧ star (dkL d room fs r) h := fun _ h => h
theorem dk_close {d room fu : Nat} {fs : List Fl} {r : DRaw} (hr : r.pn + fu ≤ 1000000000000 ∧ ∀ x ∈ r.els, pieceOk x) : ∀ h, star (dkL d room fs r) h → diskC d room fs fu h := fun _ h => ⟨r, hr, h⟩
theorem ent_disk {d room fu : Nat} (pre post : List Fl) (f : Fl) (r : DRaw) (q : FRaw) (hr : r.pn + fu ≤ 1000000000000 ∧ ∀ x ∈ r.els, pieceOk x) (hq : f.now.length = q.n) :
  Ent (filL f.b f.now q ++ [filesC (pre ++ post), dkC d r.fm room r.ch r.lf (.slice r.pa r.pn r.pc), amap r.fm .string (flM (pre ++ f :: post)), own r.pa r.pn r.pc 134 3 r.els]) [diskC d room (pre ++ f :: post) fu] :=
 (Ent.fold (fil_close hq)).trans (((ent_file' pre post f).frame _).trans (Ent.close (L := dkL d room (pre ++ f :: post) r) (dk_close hr) xpkd))
theorem s_size (d room fu : Nat) (pre post : List Fl) (f : Fl) (hn : isName f.nm) :
  Spec Tryz.prog 69 [.pointer (some ⟨d, 0, none⟩), .string f.nm] [diskC d room (pre ++ f :: post) fu] (fun v S => v = .int .i64 f.now.length ∧ S = [diskC d room (pre ++ f :: post) fu]) := by
 refine spec_of Tryz.func69 rfl Tryz.results69 Tryz.ntmps69 rfl ?_
 refine t_open dk_open .here fun r hr => ?_
 refine t_tell rfl ?_
 repeat' first | refine wk ?_ | refine wc ?_ ?_ <;> intro h <;> try omega | fail
 refine c_call (s_may d r.fm room r.ch r.lf _ (pre ++ f :: post) f true hn (by simp)) rfl xpkd rfl rfl ?_
 rintro v S ⟨rfl, rfl⟩
 refine l_tell rfl ?_
 repeat' first | refine wk ?_ | refine wc ?_ ?_ <;> intro h <;> try omega | fail
 refine l_ent (S' := [filesC (pre ++ f :: post), dkC d r.fm room r.ch r.lf (.slice r.pa r.pn r.pc), amap r.fm .string (flM (pre ++ f :: post)), own r.pa r.pn r.pc 134 3 r.els]) (Ent.pick xpkd) ?_
 refine l_ent ((ent_file pre post f).frame _) ?_
 refine l_open fil_open .here fun q hq => ?_
 refine l_tell rfl ?_
 repeat' first | refine wk ?_ | refine wc ?_ ?_ <;> intro h <;> try omega | fail
 refine b_ret [diskC d room (pre ++ f :: post) fu] rfl (ent_disk pre post f r q hr hq) ⟨?_, rfl⟩
 show Value.int .i64 _ = _
 rw [hq]
theorem l_fact {P : Program} {N : Nat} {ops rest : List Oper} {D : List Deferred} {env : KEnv} {S : List Asn} {Q : Post} {p : Prop} (hp : ∀ h, star S h → p) (k : p → TripL P N ops rest D env S Q) : TripL P N ops rest D env S Q :=
 ⟨fun G F a w hw => (k (hp _ (Ent.left S F _ hw.sat.heap))).run G F a w hw⟩
theorem s_read (d room fu : Nat) (pre post : List Fl) (f : Fl) (hn : isName f.nm) (at_ n : Nat) (h1 : at_ + n ≤ f.now.length) (h2 : f.now.length ≤ 1099511627776) :
  Spec Tryz.prog 68 [.pointer (some ⟨d, 0, none⟩), .string f.nm, .int .i64 at_, .int .i64 n] [diskC d room (pre ++ f :: post) fu] (fun v S => ∃ a c, v = .tuple #[.slice a n c, .int .i64 0] ∧ S = [own a n c 5 1 (vb ((f.now.drop at_).take n)), diskC d room (pre ++ f :: post) fu]) := by
 refine spec_of Tryz.func68 rfl Tryz.results68 Tryz.ntmps68 rfl ?_
 refine t_open dk_open .here fun r hr => ?_
 refine t_tell rfl ?_
 repeat' first | refine wk ?_ | refine wc ?_ ?_ <;> intro h <;> try omega | fail
 refine c_call (s_may d r.fm room r.ch r.lf _ (pre ++ f :: post) f true hn (by simp)) rfl xpkd rfl rfl ?_
 rintro v S ⟨rfl, rfl⟩
 refine l_tell rfl ?_
 refine l_ent (S' := [filesC (pre ++ f :: post), dkC d r.fm room r.ch r.lf (.slice r.pa r.pn r.pc), amap r.fm .string (flM (pre ++ f :: post)), own r.pa r.pn r.pc 134 3 r.els]) (Ent.pick xpkd) ?_
 refine l_ent ((ent_file pre post f).frame _) ?_
 refine l_open fil_open .here fun q hq => ?_
 refine l_tell rfl ?_
 refine l_fact (fun h hs => own_le h (star_drop hs)) fun hle => ?_
 have e : (at_ : Int) + (n : Int) = Int.ofNat (at_ + n) := by simp
 repeat' first | refine wk ?_ | refine wc ?_ ?_ <;> intro h <;> try omega | fail
 refine o_buildSlice rfl rfl rfl rfl rfl rfl rfl rfl rfl rfl rfl rfl fun pb => ?_
 repeat' first | refine l_qp (by (apply q_slice2 (hi := at_ + n); exact rfl; exact rfl; exact congrArg (fun i => some (Value.int .i64 i)) e; exact rfl; exact rfl; exact rfl; exact rfl; omega; omega)) rfl ?_ | refine d_qp rfl (by (apply q_slice2 (hi := at_ + n); exact rfl; exact rfl; exact congrArg (fun i => some (Value.int .i64 i)) e; exact rfl; exact rfl; exact rfl; exact rfl; omega; omega)) rfl ?_ | refine d_gqp rfl rfl (by (apply q_slice2 (hi := at_ + n); exact rfl; exact rfl; exact congrArg (fun i => some (Value.int .i64 i)) e; exact rfl; exact rfl; exact rfl; exact rfl; omega; omega)) rfl ?_ | refine wk ?_ | refine wc ?_ ?_ <;> intro h <;> try omega | fail
 rw [Nat.add_sub_cancel_left]
 have hA : Rds [own q.a q.n q.c 5 1 (vb f.now)] (slide q.a q.c at_ 1) n 1 (vb ((f.now.drop at_).take n)) := by
  rw [← vb_win]; exact (Rds.own 0 rfl).win q.c at_ n hle.2.1 (by omega)
 refine c_append rfl rfl xhol (hA.up xpkd) rfl rfl rfl rfl rfl (by show (0 + n) * 1 ≤ _; omega) (by omega) rfl fun a' c' => ?_
 rw [Nat.zero_add, List.nil_append]
 refine l_tell rfl ?_
 repeat' first | refine wk ?_ | refine wc ?_ ?_ <;> intro h <;> try omega | fail
 refine b_ret [own a' n c' 5 1 (vb ((f.now.drop at_).take n)), diskC d room (pre ++ f :: post) fu] rfl (Ent.cons _ (ent_disk pre post f r q hr hq)) ⟨a', c', rfl, rfl⟩
end Go.Ox
end
section
namespace Go.Ox
open Go
section
variable {P : Program} [T : Tab P] {N : Nat} {D : List Deferred} {env : KEnv} {S S' S'' : List Asn} {t xt yt te : TypeId} {x y : Operand} {ti ei : TInf} {a a' : Addr} {l l' : List Value} {e e' : TypeId}
theorem run_eq_other {w : World} {ca cb : Array Value} (hT : T.tab xt = some ti) (hd : ti.desc = .pointer te) (hE : T.tab te = some ei) (hz : Nat.beq ei.size 0 = false) (hne : a ≠ a')
  (ha : w.heap[a.block]? = some (.cells ca e (0, 0))) (hb : w.heap[a'.block]? = some (.cells cb e' (0, 0))) : (Op.equal xt (.pointer (some a)) (.pointer (some a'))).run P w = .ok false w := by
 have hu := r_under (P := P) w hT
 rw [hd] at hu
 have hs := r_size (P := P) w hE
 have hz' : ei.size ≠ 0 := by intro h; rw [h] at hz; cases hz
 have h : ∀ d : Nat, (Op.equalIn (d + 1) xt (.pointer (some a)) (.pointer (some a'))).run P w = .ok false w := fun d => by
  simp [Op.equalIn, hu, hs, hz', run_sameAddr_other w hne ha hb]
 exact h 9999
theorem q_otherPtrN (hx : ev env x = some (.pointer (some a))) (hy : ev env y = some (.pointer (some a'))) (hT : T.tab xt = some ti) (hd : ti.desc = .pointer te) (hE : T.tab te = some ei) (hz : Nat.beq ei.size 0 = false) (hne : a ≠ a')
  (ha : CAt S (cellsAt a.block e l) (cellsAt a.block e l) S') (hb : CAt S (cellsAt a'.block e' l') (cellsAt a'.block e' l') S'') : QS P N D env S (.binOp .neq xt x y yt) t (.bool true) :=
 .mk fun G F act w k d pos aft => by
  obtain ⟨i, hi, _⟩ := ha.at
  obtain ⟨j, hj, _⟩ := hb.at
  have h1 := k.sat.get hi
  have h2 := k.sat.get hj
  simp [execOp, k.env.eval hx, k.env.eval hy, eqGuard, binOp, run_eq_other hT hd hE hz hne h1 h2]
end
end Go.Ox
end
