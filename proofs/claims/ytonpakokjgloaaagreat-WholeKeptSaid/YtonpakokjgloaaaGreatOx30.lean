/- WholeKept, part 30. No condition. -/
import Derived.Test.YtonpakokjgloaaaGreatOx24
import Derived.Test.YtonpakokjgloaaaGreatOx25
set_option linter.all false
section
set_option maxRecDepth 100000
set_option maxHeartbeats 800000
namespace Go.Ox
open Go Go.Proofs
structure Vn where
 r : Nat
 b : Nat
def Vn.ok (v : Vn) : Prop := v.r < 1048576 ∧ v.b ≤ 1048576 ∧ (v.r = 0 ↔ v.b = 0)
def Vn.cells (v : Vn) : List Value := [.int .i64 (v.r : Int), .int .i64 (v.b : Int)]
def vsV (vs : List Vn) : List (List Value) := vs.map Vn.cells
theorem vsV_get {vs : List Vn} {i : Nat} (h : i < vs.length) : (vsV vs)[i]? = some (vs[i]).cells := by
 unfold vsV; rw [List.getElem?_map, List.getElem?_eq_getElem h]; rfl
theorem s_pmay (v : Vn) (hv : v.ok) : Spec Tryz.prog 158 [.agg #[.int .i64 (v.r : Int), .int .i64 (v.b : Int)]] [] (fun u S => u = .bool true ∧ S = []) := by
 obtain ⟨h1, h2, h3⟩ := hv
 refine spec_of Tryz.func158 rfl Tryz.results158 Tryz.ntmps158 rfl ?_
 repeat' first | refine wb fun _ => ?_ | refine l_qp (by (apply q_eqlB; exact rfl; exact rfl; exact rfl; exact rfl)) rfl ?_ | refine d_qp rfl (by (apply q_eqlB; exact rfl; exact rfl; exact rfl; exact rfl)) rfl ?_ | refine d_gqp rfl rfl (by (apply q_eqlB; exact rfl; exact rfl; exact rfl; exact rfl)) rfl ?_ | refine wk ?_ | refine wc ?_ ?_ <;> intro h <;> try omega | fail
 ·exact b_ret [] rfl (fun _ _ => trivial) ⟨rfl, rfl⟩
 ·exact b_ret [] rfl (fun _ _ => trivial) ⟨rfl, rfl⟩
theorem s_plisted (A : Asn) (a : Option Addr) (n c : Nat) (vs : List Vn) (hA : Rds [A] a n 2 (vsV vs)) (hl : vs.length = n) (h1 : 1 ≤ n) (h2 : n ≤ 16) (ho : ∀ v ∈ vs, v.ok) :
  Spec Tryz.prog 219 [.slice a n c] [A] (fun u S => u = .bool true ∧ S = [A]) := by
 refine spec_of Tryz.func219 rfl Tryz.results219 Tryz.ntmps219 rfl ?_
 refine t_pure (hA.some' (by omega)) ?_
 rintro ⟨b, off, rfl⟩
 repeat' first | refine wk ?_ | refine wc ?_ ?_ <;> intro h <;> try omega | fail
 refine t_loop (fun mm env S => ∃ i, i ≤ n ∧ mm = n - i ∧ env = [(0, .slice (some ⟨b, off, none⟩) n c), (5, .slice (some ⟨b, off, none⟩) n c), (6, .int .i64 (n : Int)), (7, .int .i64 (i : Int))] ∧ S = [A]) n _ _ ⟨0, by omega, by omega, rfl, rfl⟩ xlss (Ent.refl _) ?_
 rintro mm env S ⟨i, hi, rfl, rfl, rfl⟩
 by_cases hin : i < n
 ·have hin2 : i < vs.length := by omega
  repeat' first | refine wb fun _ => ?_ | refine wk ?_ | refine wc ?_ ?_ <;> intro h <;> try omega | refine l_qs (by exact q_loadRdA (j := i) (hA.up xpkd) rfl rfl rfl rfl rfl (vsV_get hin2)) rfl ?_ | fail
  refine c_call (s_pmay vs[i] (ho _ (List.getElem_mem hin2))) rfl .nil rfl rfl ?_
  rintro v S ⟨rfl, rfl⟩
  refine l_tell rfl ?_
  repeat' first | refine wk ?_ | refine wc ?_ ?_ <;> intro h <;> try omega | fail
  exact ⟨rfl, n - (i + 1), _, _, by omega, ⟨i + 1, by omega, rfl, rfl, rfl⟩, xlss, Ent.pick xpkd⟩
 ·have e : i = n := by omega
  subst e
  repeat' first | refine wk ?_ | refine wc ?_ ?_ <;> intro h <;> try omega | fail
  exact b_ret _ rfl (Ent.refl _) ⟨rfl, rfl⟩
theorem s_pMay (A : Asn) (a : Option Addr) (n c cur : Nat) (vs : List Vn) (hA : Rds [A] a n 2 (vsV vs)) (hl : vs.length = n) (h1 : cur < n) (h2 : n ≤ 16) (ho : ∀ v ∈ vs, v.ok) :
  Spec Tryz.prog 157 [.agg #[.slice a n c, .int .i64 (cur : Int)]] [A] (fun u S => u = .bool true ∧ S = [A]) := by
 refine spec_of Tryz.func157 rfl Tryz.results157 Tryz.ntmps157 rfl ?_
 repeat' first | refine wb fun _ => ?_ | refine wk ?_ | refine wc ?_ ?_ <;> intro h <;> try omega | fail
 refine c_call (s_plisted A a n c vs hA hl (by omega) h2 ho) rfl xpkd rfl rfl ?_
 rintro v S ⟨rfl, rfl⟩
 refine l_tell rfl ?_
 repeat' first | refine wk ?_ | refine wc ?_ ?_ <;> intro h <;> try omega | fail
 exact b_ret [A] rfl (Ent.pick xpkd) ⟨rfl, rfl⟩
theorem s_pNow (A : Asn) (a : Option Addr) (n c cur : Nat) (vs : List Vn) (hA : Rds [A] a n 2 (vsV vs)) (hl : vs.length = n) (h1 : cur < vs.length) (h2 : n ≤ 16) (ho : ∀ v ∈ vs, v.ok) :
  Spec Tryz.prog 104 [.agg #[.slice a n c, .int .i64 (cur : Int)]] [A] (fun u S => u = .agg #[.int .i64 ((vs[cur]'h1).r : Int), .int .i64 ((vs[cur]'h1).b : Int)] ∧ S = [A]) := by
 refine spec_of_d Tryz.func104 rfl Tryz.results104 Tryz.ntmps104 rfl ?_
 refine t_pure (hA.some' (by omega)) ?_
 rintro ⟨b, off, rfl⟩
 repeat' first | refine wb fun _ => ?_ | refine wk ?_ | refine wc ?_ ?_ <;> intro h <;> try omega | fail
 refine c_call (s_pMay A _ n c cur vs hA hl (by omega) h2 ho) rfl xpkd rfl rfl ?_
 rintro v S ⟨rfl, rfl⟩
 refine l_tell rfl ?_
 repeat' first | refine wk ?_ | refine wc ?_ ?_ <;> intro h <;> try omega | refine l_qs (by exact q_loadRdA (j := cur) (hA.up xpkd) rfl rfl rfl rfl rfl (vsV_get h1)) rfl ?_ | fail
 exact bd_ret (out_nil [A] (.cons (.cell fun N D => c_loadA rfl xfnd rfl rfl rfl) .nil) (Ent.pick xpkd) ⟨rfl, rfl⟩)
end Go.Ox
end
section
set_option maxRecDepth 100000
set_option maxHeartbeats 800000
namespace Go.Ox
open Go Go.Proofs
theorem s_pCommit (A : Asn) (a : Option Addr) (n c cur most : Nat) (vs : List Vn) (v : Vn) (hA : Rds [A] a n 2 (vsV vs)) (hc : n ≤ c) (hl : vs.length = n) (h1 : cur < n) (h2 : n ≤ 16) (ho : ∀ v ∈ vs, v.ok) (hv : v.ok) (hm1 : 1 ≤ most) (hm2 : most ≤ 16) :
  Spec Tryz.prog 102 [.agg #[.slice a n c, .int .i64 (cur : Int)], .agg #[.int .i64 (v.r : Int), .int .i64 (v.b : Int)], .int .i64 (most : Int)] [A]
   (fun u S => ∃ (B : Asn) (a' : Option Addr) (c' : Nat), u = .tuple #[.agg #[.slice a' (cur + 2 - (cur + 2 - most)) c', .int .i64 ((cur + 2 - (cur + 2 - most) - 1 : Nat) : Int)], .int .i64 0] ∧ S = [B, A] ∧ Rds [B] a' (cur + 2 - (cur + 2 - most)) 2 (vsV ((vs.take (cur + 1) ++ [v]).drop (cur + 2 - most)))) := by
 refine spec_of_d Tryz.func102 rfl Tryz.results102 Tryz.ntmps102 rfl ?_
 repeat' first | refine wk ?_ | refine wc ?_ ?_ <;> intro h <;> try omega | fail
 refine o_box rfl rfl rfl fun b3 => ?_
 refine o_box rfl rfl rfl fun b4 => ?_
 repeat' first | refine wb fun _ => ?_ | refine wk ?_ | refine wc ?_ ?_ <;> intro h <;> try omega | fail
 rename_i rb
 refine c_call (s_pMay A a n c cur vs hA hl (by omega) h2 ho) rfl xpkd rfl rfl ?_
 rintro u S ⟨rfl, rfl⟩
 refine l_tell rfl ?_
 repeat' first | refine wk ?_ | refine wc ?_ ?_ <;> intro h <;> try omega | fail
 refine c_call (s_pmay v hv) rfl .nil rfl rfl ?_
 rintro u S ⟨rfl, rfl⟩
 refine l_tell rfl ?_
 repeat' first | refine wk ?_ | refine wc ?_ ?_ <;> intro h <;> try omega | fail
 refine t_draw (.eval 1 true (.eval 2 false (.eval 3 true (.eval 4 false (.eval 5 true (.eval 6 true (.eval 8 false (.eff 0 [2, 4, 8] (.eff 7 [2, 4, 8] (.eff 9 [2, 4] (.eff 10 [2, 4, 8] (.eff 11 [] .fin .stop) .stop) .stop) (.eff 9 [2, 4] (.eff 7 [2, 4, 8] (.eff 10 [2, 4, 8] (.eff 11 [] .fin .stop) .stop) .stop) .stop)) (.eff 9 [2, 4] (.eff 0 [2, 4, 8] (.eff 7 [2, 4, 8] (.eff 10 [2, 4, 8] (.eff 11 [] .fin .stop) .stop) .stop) .stop) .stop))))))))) rfl (by kernel_rfl) ?_
 repeat' first | refine l_qp (by (apply q_sliceTo (hi := cur + 1); exact rfl; exact rfl; exact rfl; exact rfl; exact rfl; exact rfl; omega)) rfl ?_ | refine d_qp rfl (by (apply q_sliceTo (hi := cur + 1); exact rfl; exact rfl; exact rfl; exact rfl; exact rfl; exact rfl; omega)) rfl ?_ | refine d_gqp rfl rfl (by (apply q_sliceTo (hi := cur + 1); exact rfl; exact rfl; exact rfl; exact rfl; exact rfl; exact rfl; omega)) rfl ?_ | refine wk ?_ | refine wc ?_ ?_ <;> intro h <;> try omega | fail
 refine d_eff rfl ?_ ?_
 ·refine o_buildSlice rfl rfl rfl rfl rfl rfl rfl rfl rfl rfl rfl rfl fun pb1 => ?_
  repeat' first | refine wk ?_ | refine wc ?_ ?_ <;> intro h <;> try omega | fail
  refine d_eff rfl ?_ ?_
  ·refine c_append rfl rfl xhol ((hA.pre (cur + 1) (by omega)).up xpkd) rfl rfl rfl rfl rfl (by show (0 + (cur + 1)) * 16 ≤ _; omega) (by omega) rfl fun a4 c4 => ?_
   repeat' first | refine wk ?_ | refine wc ?_ ?_ <;> intro h <;> try omega | fail
   refine o_buildSlice rfl rfl rfl rfl rfl rfl rfl rfl rfl rfl rfl rfl fun pb2 => ?_
   repeat' first | refine wk ?_ | refine wc ?_ ?_ <;> intro h <;> try omega | fail
   refine c_append rfl rfl xhol (own_rds (a := some ⟨pb2, 0, none⟩) xfnd) rfl rfl rfl rfl rfl (by show (0 + (cur + 1) + 1) * 16 ≤ _; omega) (by omega) rfl fun a5 c5 => ?_
   repeat' first | refine wk ?_ | refine wc ?_ ?_ <;> intro h <;> try omega | fail
   have hl0 : (vs.take (cur + 1) ++ [v]).length = cur + 2 := by simp; omega
   have ev : vsV (vs.take (cur + 1) ++ [v]) = [] ++ (vsV vs).take (cur + 1) ++ [[.int .i64 (v.r : Int), .int .i64 (v.b : Int)]] := by simp [vsV, List.map_take, Vn.cells]
   refine l_ent (S' := [own a5 (cur + 2) c5 182 2 (vsV (vs.take (cur + 1) ++ [v])), cellsAt rb 103 [.slice none 0 0, .int .i64 0], A]) (by rw [ev, show cur + 2 = 0 + (cur + 1) + 1 by omega]; exact Ent.pick xpkd) ?_
   refine l_fact (p := cur + 2 ≤ c5) (fun h hs => by obtain ⟨_, _, _, _, _, ⟨_, _, q3, _⟩, _⟩ := hs; exact q3) fun hc5 => ?_
   have e1 : max (0 : Int) (((0 + (cur + 1) + 1 : Nat) : Int) - (most : Int)) = ((cur + 2 - most : Nat) : Int) := by omega
   repeat' first | refine l_qp (by (apply q_sliceFrom (lo := cur + 2 - most); exact rfl; exact congrArg (fun i => some (Value.int .i64 i)) e1; exact rfl; exact rfl; exact rfl; exact rfl; omega)) rfl ?_ | refine d_qp rfl (by (apply q_sliceFrom (lo := cur + 2 - most); exact rfl; exact congrArg (fun i => some (Value.int .i64 i)) e1; exact rfl; exact rfl; exact rfl; exact rfl; omega)) rfl ?_ | refine d_gqp rfl rfl (by (apply q_sliceFrom (lo := cur + 2 - most); exact rfl; exact congrArg (fun i => some (Value.int .i64 i)) e1; exact rfl; exact rfl; exact rfl; exact rfl; omega)) rfl ?_ | refine wk ?_ | refine wc ?_ ?_ <;> intro h <;> try omega | fail
   have hrd : Rds [own a5 (cur + 2) c5 182 2 (vsV (vs.take (cur + 1) ++ [v]))] (slide a5 c5 (cur + 2 - most) 2) (cur + 2 - (cur + 2 - most)) 2 (vsV ((vs.take (cur + 1) ++ [v]).drop (cur + 2 - most))) := by
    have := (Rds.own (S := [own a5 (cur + 2) c5 182 2 (vsV (vs.take (cur + 1) ++ [v]))]) 0 rfl).win c5 (cur + 2 - most) (cur + 2 - (cur + 2 - most)) hc5 (by omega)
    have e2 : ((vsV (vs.take (cur + 1) ++ [v])).drop (cur + 2 - most)).take (cur + 2 - (cur + 2 - most)) = vsV ((vs.take (cur + 1) ++ [v]).drop (cur + 2 - most)) := by
     rw [List.take_of_length_le (by simp [vsV]; omega)]; simp [vsV, List.map_drop]
    rwa [e2] at this
   have e3 : (cur + 2 - (cur + 2 - most) : Nat) = min (cur + 2) most := by omega
   refine bd_ret (out_nil [own a5 (cur + 2) c5 182 2 (vsV (vs.take (cur + 1) ++ [v])), A] (.cons (.cell fun N D => c_loadA rfl (.there .here) rfl rfl rfl) (.cons (.tmp rfl) .nil)) (Ent.pick xpkd) ⟨_, slide a5 c5 (cur + 2 - most) 2, c5 - (cur + 2 - most), ?_, rfl, hrd⟩)
   rw [show (((0 + (cur + 1) + 1 - (cur + 2 - most) : Nat) : Int) - 1) = ((cur + 2 - (cur + 2 - most) - 1 : Nat) : Int) by omega, show 0 + (cur + 1) + 1 - (cur + 2 - most) = cur + 2 - (cur + 2 - most) by omega]
   rfl
  ·refine d_eff rfl ?_ d_stop
   refine o_buildSlice rfl rfl rfl rfl rfl rfl rfl rfl rfl rfl rfl rfl fun pb2 => ?_
   repeat' first | refine wk ?_ | refine wc ?_ ?_ <;> intro h <;> try omega | fail
   refine c_append rfl rfl xhol ((hA.pre (cur + 1) (by omega)).up xpkd) rfl rfl rfl rfl rfl (by show (0 + (cur + 1)) * 16 ≤ _; omega) (by omega) rfl fun a4 c4 => ?_
   repeat' first | refine wk ?_ | refine wc ?_ ?_ <;> intro h <;> try omega | fail
   refine c_append rfl rfl xhol (own_rds (a := some ⟨pb2, 0, none⟩) xfnd) rfl rfl rfl rfl rfl (by show (0 + (cur + 1) + 1) * 16 ≤ _; omega) (by omega) rfl fun a5 c5 => ?_
   repeat' first | refine wk ?_ | refine wc ?_ ?_ <;> intro h <;> try omega | fail
   have hl0 : (vs.take (cur + 1) ++ [v]).length = cur + 2 := by simp; omega
   have ev : vsV (vs.take (cur + 1) ++ [v]) = [] ++ (vsV vs).take (cur + 1) ++ [[.int .i64 (v.r : Int), .int .i64 (v.b : Int)]] := by simp [vsV, List.map_take, Vn.cells]
   refine l_ent (S' := [own a5 (cur + 2) c5 182 2 (vsV (vs.take (cur + 1) ++ [v])), cellsAt rb 103 [.slice none 0 0, .int .i64 0], A]) (by rw [ev, show cur + 2 = 0 + (cur + 1) + 1 by omega]; exact Ent.pick xpkd) ?_
   refine l_fact (p := cur + 2 ≤ c5) (fun h hs => by obtain ⟨_, _, _, _, _, ⟨_, _, q3, _⟩, _⟩ := hs; exact q3) fun hc5 => ?_
   have e1 : max (0 : Int) (((0 + (cur + 1) + 1 : Nat) : Int) - (most : Int)) = ((cur + 2 - most : Nat) : Int) := by omega
   repeat' first | refine l_qp (by (apply q_sliceFrom (lo := cur + 2 - most); exact rfl; exact congrArg (fun i => some (Value.int .i64 i)) e1; exact rfl; exact rfl; exact rfl; exact rfl; omega)) rfl ?_ | refine d_qp rfl (by (apply q_sliceFrom (lo := cur + 2 - most); exact rfl; exact congrArg (fun i => some (Value.int .i64 i)) e1; exact rfl; exact rfl; exact rfl; exact rfl; omega)) rfl ?_ | refine d_gqp rfl rfl (by (apply q_sliceFrom (lo := cur + 2 - most); exact rfl; exact congrArg (fun i => some (Value.int .i64 i)) e1; exact rfl; exact rfl; exact rfl; exact rfl; omega)) rfl ?_ | refine wk ?_ | refine wc ?_ ?_ <;> intro h <;> try omega | fail
   have hrd : Rds [own a5 (cur + 2) c5 182 2 (vsV (vs.take (cur + 1) ++ [v]))] (slide a5 c5 (cur + 2 - most) 2) (cur + 2 - (cur + 2 - most)) 2 (vsV ((vs.take (cur + 1) ++ [v]).drop (cur + 2 - most))) := by
    have := (Rds.own (S := [own a5 (cur + 2) c5 182 2 (vsV (vs.take (cur + 1) ++ [v]))]) 0 rfl).win c5 (cur + 2 - most) (cur + 2 - (cur + 2 - most)) hc5 (by omega)
    have e2 : ((vsV (vs.take (cur + 1) ++ [v])).drop (cur + 2 - most)).take (cur + 2 - (cur + 2 - most)) = vsV ((vs.take (cur + 1) ++ [v]).drop (cur + 2 - most)) := by
     rw [List.take_of_length_le (by simp [vsV]; omega)]; simp [vsV, List.map_drop]
    rwa [e2] at this
   have e3 : (cur + 2 - (cur + 2 - most) : Nat) = min (cur + 2) most := by omega
   refine bd_ret (out_nil [own a5 (cur + 2) c5 182 2 (vsV (vs.take (cur + 1) ++ [v])), A] (.cons (.cell fun N D => c_loadA rfl (.there .here) rfl rfl rfl) (.cons (.tmp rfl) .nil)) (Ent.pick xpkd) ⟨_, slide a5 c5 (cur + 2 - most) 2, c5 - (cur + 2 - most), ?_, rfl, hrd⟩)
   rw [show (((0 + (cur + 1) + 1 - (cur + 2 - most) : Nat) : Int) - 1) = ((cur + 2 - (cur + 2 - most) - 1 : Nat) : Int) by omega, show 0 + (cur + 1) + 1 - (cur + 2 - most) = cur + 2 - (cur + 2 - most) by omega]
   rfl
 ·refine d_eff rfl ?_ d_stop
  refine o_buildSlice rfl rfl rfl rfl rfl rfl rfl rfl rfl rfl rfl rfl fun pb2 => ?_
  repeat' first | refine wk ?_ | refine wc ?_ ?_ <;> intro h <;> try omega | fail
  refine o_buildSlice rfl rfl rfl rfl rfl rfl rfl rfl rfl rfl rfl rfl fun pb1 => ?_
  repeat' first | refine wk ?_ | refine wc ?_ ?_ <;> intro h <;> try omega | fail
  refine c_append rfl rfl xhol ((hA.pre (cur + 1) (by omega)).up xpkd) rfl rfl rfl rfl rfl (by show (0 + (cur + 1)) * 16 ≤ _; omega) (by omega) rfl fun a4 c4 => ?_
  repeat' first | refine wk ?_ | refine wc ?_ ?_ <;> intro h <;> try omega | fail
  refine c_append rfl rfl xhol (own_rds (a := some ⟨pb2, 0, none⟩) xfnd) rfl rfl rfl rfl rfl (by show (0 + (cur + 1) + 1) * 16 ≤ _; omega) (by omega) rfl fun a5 c5 => ?_
  repeat' first | refine wk ?_ | refine wc ?_ ?_ <;> intro h <;> try omega | fail
  have hl0 : (vs.take (cur + 1) ++ [v]).length = cur + 2 := by simp; omega
  have ev : vsV (vs.take (cur + 1) ++ [v]) = [] ++ (vsV vs).take (cur + 1) ++ [[.int .i64 (v.r : Int), .int .i64 (v.b : Int)]] := by simp [vsV, List.map_take, Vn.cells]
  refine l_ent (S' := [own a5 (cur + 2) c5 182 2 (vsV (vs.take (cur + 1) ++ [v])), cellsAt rb 103 [.slice none 0 0, .int .i64 0], A]) (by rw [ev, show cur + 2 = 0 + (cur + 1) + 1 by omega]; exact Ent.pick xpkd) ?_
  refine l_fact (p := cur + 2 ≤ c5) (fun h hs => by obtain ⟨_, _, _, _, _, ⟨_, _, q3, _⟩, _⟩ := hs; exact q3) fun hc5 => ?_
  have e1 : max (0 : Int) (((0 + (cur + 1) + 1 : Nat) : Int) - (most : Int)) = ((cur + 2 - most : Nat) : Int) := by omega
  repeat' first | refine l_qp (by (apply q_sliceFrom (lo := cur + 2 - most); exact rfl; exact congrArg (fun i => some (Value.int .i64 i)) e1; exact rfl; exact rfl; exact rfl; exact rfl; omega)) rfl ?_ | refine d_qp rfl (by (apply q_sliceFrom (lo := cur + 2 - most); exact rfl; exact congrArg (fun i => some (Value.int .i64 i)) e1; exact rfl; exact rfl; exact rfl; exact rfl; omega)) rfl ?_ | refine d_gqp rfl rfl (by (apply q_sliceFrom (lo := cur + 2 - most); exact rfl; exact congrArg (fun i => some (Value.int .i64 i)) e1; exact rfl; exact rfl; exact rfl; exact rfl; omega)) rfl ?_ | refine wk ?_ | refine wc ?_ ?_ <;> intro h <;> try omega | fail
  have hrd : Rds [own a5 (cur + 2) c5 182 2 (vsV (vs.take (cur + 1) ++ [v]))] (slide a5 c5 (cur + 2 - most) 2) (cur + 2 - (cur + 2 - most)) 2 (vsV ((vs.take (cur + 1) ++ [v]).drop (cur + 2 - most))) := by
   have := (Rds.own (S := [own a5 (cur + 2) c5 182 2 (vsV (vs.take (cur + 1) ++ [v]))]) 0 rfl).win c5 (cur + 2 - most) (cur + 2 - (cur + 2 - most)) hc5 (by omega)
   have e2 : ((vsV (vs.take (cur + 1) ++ [v])).drop (cur + 2 - most)).take (cur + 2 - (cur + 2 - most)) = vsV ((vs.take (cur + 1) ++ [v]).drop (cur + 2 - most)) := by
    rw [List.take_of_length_le (by simp [vsV]; omega)]; simp [vsV, List.map_drop]
   rwa [e2] at this
  have e3 : (cur + 2 - (cur + 2 - most) : Nat) = min (cur + 2) most := by omega
  refine bd_ret (out_nil [own a5 (cur + 2) c5 182 2 (vsV (vs.take (cur + 1) ++ [v])), A] (.cons (.cell fun N D => c_loadA rfl (.there .here) rfl rfl rfl) (.cons (.tmp rfl) .nil)) (Ent.pick xpkd) ⟨_, slide a5 c5 (cur + 2 - most) 2, c5 - (cur + 2 - most), ?_, rfl, hrd⟩)
  rw [show (((0 + (cur + 1) + 1 - (cur + 2 - most) : Nat) : Int) - 1) = ((cur + 2 - (cur + 2 - most) - 1 : Nat) : Int) by omega, show 0 + (cur + 1) + 1 - (cur + 2 - most) = cur + 2 - (cur + 2 - most) by omega]
  rfl
end Go.Ox
end
section
set_option maxRecDepth 100000
set_option maxHeartbeats 1600000
namespace Go.Ox
open Go Go.Proofs
def verB (v : Vn) : List Nat := leB v.r 4 ++ leB v.b 4
def rollB (vs : List Vn) : List Nat := vs.length :: vs.flatMap verB
def partB (v : Vn) : Nat → List Nat
 | 0 => []
 | 1 => leB v.r 4
 | _ => verB v
theorem rollB_len (vs : List Vn) : (rollB vs).length = 1 + 8 * vs.length := by
 have : ∀ l : List Vn, (l.flatMap verB).length = 8 * l.length := by
  intro l
  induction l with
  | nil => rfl
  | cons v l ih => rw [List.flatMap_cons, List.length_append, ih, List.length_cons]; simp only [verB, List.length_append, leB_len]; omega
 unfold rollB; rw [List.length_cons, this]; omega
theorem rollB_lt (vs : List Vn) (h : vs.length ≤ 16) : ∀ b ∈ rollB vs, b < 256 := by
 intro b hb
 rcases List.mem_cons.1 hb with rfl | hb
 ·omega
 ·obtain ⟨v, _, hv⟩ := List.mem_flatMap.1 hb
  rcases List.mem_append.1 hv with h | h
  ·exact leB_lt _ _ _ h
  ·exact leB_lt _ _ _ h
theorem s_pPack (A : Asn) (a : Option Addr) (n c : Nat) (vs : List Vn) (hA : Rds [A] a n 2 (vsV vs)) (hl : vs.length = n) (h1 : 1 ≤ n) (h2 : n ≤ 16) (ho : ∀ v ∈ vs, v.ok) :
  Spec Tryz.prog 220 [.slice a n c] [A] (fun u S => ∃ (a' : Option Addr) (c' : Nat), u = .tuple #[.slice a' (1 + 8 * n) c', .int .i64 0] ∧ S = [own a' (1 + 8 * n) c' 5 1 (vb (rollB vs)), A]) := by
 refine spec_of Tryz.func220 rfl Tryz.results220 Tryz.ntmps220 rfl ?_
 refine t_pure (hA.some' (by omega)) ?_
 rintro ⟨b, off, rfl⟩
 repeat' first | refine wk ?_ | refine wc ?_ ?_ <;> intro h <;> try omega | fail
 refine c_call (s_plisted A _ n c vs hA hl h1 h2 ho) rfl xpkd rfl rfl ?_
 rintro v S ⟨rfl, rfl⟩
 refine l_tell rfl ?_
 repeat' first | refine l_qp (by (apply q_convB; exact rfl)) rfl ?_ | refine d_qp rfl (by (apply q_convB; exact rfl)) rfl ?_ | refine d_gqp rfl rfl (by (apply q_convB; exact rfl)) rfl ?_ | refine wk ?_ | refine wc ?_ ?_ <;> intro h <;> try omega | fail
 refine o_buildSlice rfl rfl rfl rfl rfl rfl rfl rfl rfl rfl rfl rfl fun pb => ?_
 repeat' first | refine wk ?_ | refine wc ?_ ?_ <;> intro h <;> try omega | fail
 have hmod : n % 256 = vs.length := by omega
 refine t_loop (fun mm env S => ∃ (i : Nat) (a1 : Option Addr) (c1 : Nat), i ≤ n ∧ mm = n - i ∧ env = [(4, .slice a1 (1 + 8 * i) c1), (18, .slice (some ⟨b, off, none⟩) n c), (19, .int .i64 (n : Int)), (20, .int .i64 (i : Int))] ∧ S = [own a1 (1 + 8 * i) c1 5 1 (vb (vs.length :: (vs.take i).flatMap verB)), A]) n _ _ ⟨0, _, 1, by omega, by omega, rfl, rfl⟩ xlss (by rw [hmod]; exact Ent.pick xpkd) ?_
 rintro mm env S ⟨i, a1, c1, hi, rfl, rfl, rfl⟩
 by_cases hin : i < n
 ·have hin2 : i < vs.length := by omega
  have hok := ho _ (List.getElem_mem hin2)
  have hr4 : (vs[i]).r < 256 ^ 4 := Nat.lt_of_lt_of_le hok.1 (by decide)
  have hb4 : (vs[i]).b < 256 ^ 4 := Nat.lt_of_le_of_lt hok.2.1 (by decide)
  have hr5 := hok.1
  have hb5 := hok.2.1
  repeat' first | refine wb fun _ => ?_ | refine l_qp (by (apply q_buildArr; exact rfl; exact rfl; exact rfl; exact rfl; exact rfl)) rfl ?_ | refine d_qp rfl (by (apply q_buildArr; exact rfl; exact rfl; exact rfl; exact rfl; exact rfl)) rfl ?_ | refine d_gqp rfl rfl (by (apply q_buildArr; exact rfl; exact rfl; exact rfl; exact rfl; exact rfl)) rfl ?_ | refine wk ?_ | refine wc ?_ ?_ <;> intro h <;> try omega | refine l_qs (by exact q_loadRdA (j := i) (hA.up xpkd) rfl rfl rfl rfl rfl (vsV_get hin2)) rfl ?_ | fail
  refine t_loop (fun mm env S => ∃ (j : Nat) (a2 : Option Addr) (c2 : Nat), j ≤ 2 ∧ mm = 2 - j ∧ env = [(4, .slice a2 (1 + 8 * i + 4 * j) c2), (18, .slice (some ⟨b, off, none⟩) n c), (19, .int .i64 (n : Int)), (20, .int .i64 (i : Int)), (28, .agg #[.int .i64 ((vs[i]).r : Int), .int .i64 ((vs[i]).b : Int)]), (29, .int .i64 (j : Int))] ∧ S = [own a2 (1 + 8 * i + 4 * j) c2 5 1 (vb (vs.length :: (vs.take i).flatMap verB) ++ vb (partB vs[i] j)), A]) 2 _ _ ⟨0, a1, c1, by omega, by omega, rfl, rfl⟩ xlss (by rw [show vb (partB vs[i] 0) = [] from rfl, List.append_nil]; exact Ent.pick xpkd) ?_
  rintro mm env S ⟨j, a2, c2, hj, rfl, rfl, rfl⟩
  obtain rfl | rfl | rfl : j = 0 ∨ j = 1 ∨ j = 2 := by omega
  ·repeat' first | refine l_qp (by (apply q_indexArr; exact rfl; exact rfl; exact rfl; exact rfl; exact rfl; exact rfl; exact rfl; omega; exact rfl)) rfl ?_ | refine d_qp rfl (by (apply q_indexArr; exact rfl; exact rfl; exact rfl; exact rfl; exact rfl; exact rfl; exact rfl; omega; exact rfl)) rfl ?_ | refine d_gqp rfl rfl (by (apply q_indexArr; exact rfl; exact rfl; exact rfl; exact rfl; exact rfl; exact rfl; exact rfl; omega; exact rfl)) rfl ?_ | refine wk ?_ | refine wc ?_ ?_ <;> intro h <;> try omega | fail
   refine c_call (s_leBytes (vs[i]).r 4 (by omega) (by omega) hr4 (by omega)) rfl .nil rfl rfl ?_
   rintro v S ⟨lb, rfl, rfl⟩
   refine l_tell rfl ?_
   repeat' first | refine wk ?_ | refine wc ?_ ?_ <;> intro h <;> try omega | fail
   refine c_append rfl rfl xhol (own_rds (a := some ⟨lb, 0, none⟩) xfnd) rfl rfl rfl rfl rfl (by show (1 + 8 * i + 4 * 0 + 4) * 1 ≤ _; omega) (by omega) rfl fun a3 c3 => ?_
   repeat' first | refine wk ?_ | refine wc ?_ ?_ <;> intro h <;> try omega | fail
   refine ⟨rfl, 1, _, _, by omega, ⟨1, a3, c3, by omega, rfl, rfl, rfl⟩, xlss, ?_⟩
   rw [show vb (partB vs[i] 0) = [] from rfl, List.append_nil]
   exact Ent.pick xpkd
  ·repeat' first | refine l_qp (by (apply q_indexArr; exact rfl; exact rfl; exact rfl; exact rfl; exact rfl; exact rfl; exact rfl; omega; exact rfl)) rfl ?_ | refine d_qp rfl (by (apply q_indexArr; exact rfl; exact rfl; exact rfl; exact rfl; exact rfl; exact rfl; exact rfl; omega; exact rfl)) rfl ?_ | refine d_gqp rfl rfl (by (apply q_indexArr; exact rfl; exact rfl; exact rfl; exact rfl; exact rfl; exact rfl; exact rfl; omega; exact rfl)) rfl ?_ | refine wk ?_ | refine wc ?_ ?_ <;> intro h <;> try omega | fail
   refine c_call (s_leBytes (vs[i]).b 4 (by omega) (by omega) hb4 (by omega)) rfl .nil rfl rfl ?_
   rintro v S ⟨lb, rfl, rfl⟩
   refine l_tell rfl ?_
   repeat' first | refine wk ?_ | refine wc ?_ ?_ <;> intro h <;> try omega | fail
   refine c_append rfl rfl xhol (own_rds (a := some ⟨lb, 0, none⟩) xfnd) rfl rfl rfl rfl rfl (by show (1 + 8 * i + 4 * 1 + 4) * 1 ≤ _; omega) (by omega) rfl fun a3 c3 => ?_
   repeat' first | refine wk ?_ | refine wc ?_ ?_ <;> intro h <;> try omega | fail
   refine ⟨rfl, 0, _, _, by omega, ⟨2, a3, c3, by omega, rfl, rfl, rfl⟩, xlss, ?_⟩
   rw [List.append_assoc, vb_app (partB vs[i] 1) (leB (vs[i]).b 4)]
   exact Ent.pick xpkd
  ·repeat' first | refine wk ?_ | refine wc ?_ ?_ <;> intro h <;> try omega | fail
   have hcat : vb (vs.length :: (vs.take i).flatMap verB) ++ vb (partB vs[i] 2) = vb (vs.length :: (vs.take (i + 1)).flatMap verB) := by
    rw [vb_app, List.take_add_one, List.getElem?_eq_getElem hin2, List.flatMap_append]
    simp [partB]
   rw [hcat]
   exact ⟨rfl, n - (i + 1), _, _, by omega, ⟨i + 1, a2, c2, by omega, rfl, rfl, rfl⟩, xlss, Ent.pick xpkd⟩
 ·have e : i = n := by omega
  subst e
  repeat' first | refine wk ?_ | refine wc ?_ ?_ <;> intro h <;> try omega | fail
  rw [List.take_of_length_le (by omega)]
  exact b_ret [own a1 (1 + 8 * i) c1 5 1 (vb (rollB vs)), A] rfl (Ent.pick xpkd) ⟨a1, c1, rfl, rfl⟩
end Go.Ox
end
