/- WholeKept, part 7. No condition. -/
import Derived.Laws.MakeOwn
import Derived.Test.YtonpakokjgloaaaGreatOx06
set_option linter.all false
section
namespace Go.Ox
open Go
theorem own_cells {a : Option Addr} {n c e z : Nat} {els : List (List Value)} {G : Ghost} {w : World} {R : List Asn} (k : sat G w (own a n c e z els :: R)) :
  els.length = n ∧ (∀ x ∈ els, x.length = z ∧ ∀ v ∈ x, v.oneCell' = true) ∧ n ≤ c ∧ c ≤ 9223372036854775807 ∧
  ((a = none ∧ c = 0 ∧ sat G w R) ∨ ∃ b sp, a = some ⟨b, 0, none⟩ ∧ (els.flatten ++ sp).length = c * z ∧ sat G w (pt b (.cells (els.flatten ++ sp).toArray e (0, 0)) :: R)) := by
 obtain ⟨h1, h2, d, s1, s2, ⟨q1, q2, q3, q4, q5⟩, r⟩ := k.heap
 refine ⟨q1, q2, q3, q4, ?_⟩
 rcases q5 with ⟨qa, qc⟩ | ⟨b, sp, qa, ql, qb⟩
 ·exact .inl ⟨qa, qc, k.os, k.tape, k.output, k.size, star_mono r s2⟩
 ·exact .inr ⟨b, sp, qa, ql, k.os, k.tape, k.output, k.size, h1, h2, d, s1, s2, qb, r⟩
theorem own_fold {n c e z b : Nat} {els : List (List Value)} {sp : List Value} {G : Ghost} {w : World} {R : List Asn} (h1 : els.length = n) (h2 : ∀ x ∈ els, x.length = z ∧ ∀ v ∈ x, v.oneCell' = true) (h3 : n ≤ c) (h4 : c ≤ 9223372036854775807)
  (h5 : (els.flatten ++ sp).length = c * z) (k : sat G w (pt b (.cells (els.flatten ++ sp).toArray e (0, 0)) :: R)) : sat G w (own (some ⟨b, 0, none⟩) n c e z els :: R) := by
 obtain ⟨g1, g2, d, s1, s2, a, r⟩ := k.heap
 exact ⟨k.os, k.tape, k.output, k.size, g1, g2, d, s1, s2, ⟨h1, h2, h3, h4, .inr ⟨b, sp, rfl, h5, a⟩⟩, r⟩
theorem sat_back {G : Ghost} {w : World} {S F : List Asn} {i : Nat} {A B : Asn} (hi : at? S i = some A) (k : sat G w (B :: (del S i ++ F))) : sat G w (put S i B ++ F) :=
 k.ent (Ent.perm ((perm_put hi B).symm.append_right F))
theorem run_append_zero {P : Program} {w : World} {t ty e : TypeId} {i : TypeInfo} (ht : P.underlying t = some (.slice e)) (hi : P.info? e = some i) {a a2 : Option Addr} {n c c2 : Nat} (h : n ≤ c) :
  (Builtin.append_ #[t, t] ty #[.slice a n c, .slice a2 0 c2]).run P w = .ok (.slice a n c) w := by
 cases a <;> cases a2 <;> simp [Builtin.append_, run_underlying ht, sizeOf, typeInfo, hi, Builtin.lenOf, h, Builtin.firstCells, loadCells, loadCellsFrom, storeCells]
section ops
variable {P : Program} {N : Nat} {D : List Deferred} {env : KEnv} {S : List Asn} {Q : Post} {ops rest : List Oper}
variable {d : Tmp} {t : TypeId} {pos : String} {aft : Array Edge}
variable {x y : Operand} {v : Value} {xt : TypeId} {b off e n c m c2 z : Nat} {a a2 : Option Addr} {els ys : List (List Value)}
variable [T : Tab P] {ti ei : TInf}
theorem o_append (i : Nat) (hx : ev env x = some (.slice a n c)) (hy : ev env y = some (.slice a2 m c2)) (hi : at? S i = some (own a n c e z els)) (hr : Rds S a2 m z ys) (hT : T.tab xt = some ti) (hd : ti.desc = .slice e) (hE : T.tab e = some ei) (hz : ei.size = z) (hzl : ei.zero.length = z)
  (hb : (n + m) * ei.bytes ≤ 140737488355328) (hm : n + m ≤ 4611686018427387904) (hN : ok N d)
  (next : ∀ a' c', TripL P N ops rest D ((d, .slice a' (n + m) c') :: env) (put S i (own a' (n + m) c' e z (els ++ ys))) Q) : TripL P N ops (⟨some d, .call ⟨.builtin .append, #[x, y], #[xt, xt]⟩, t, pos, aft, none⟩ :: rest) D env S Q :=
 l_op_ex (α := Option Addr × Nat) (p := fun _ => True) (v := fun q => .slice q.1 (n + m) q.2) (S' := fun q => put S i (own q.1 (n + m) q.2 e z (els ++ ys))) hN (fun G F act w k => by
  have hu := T.under xt ti hT
  rw [hd] at hu
  obtain ⟨fi, i1, i2, i3, zv, i4, i5, _⟩ := T.info e ei hE
  obtain ⟨r1, r2, r3⟩ := hr _ (k.sat.ent (Ent.left S F)).heap
  have hrl : ys.flatten.length = m * z := by rw [flatten_len (fun x hx => (r2 x hx).1), r1]
  have hone : ∀ u ∈ ys.flatten, u.oneCell' = true := flatten_oneCell fun x hx => (r2 x hx).2
  have hexec : ∀ (r : Result Value), (Builtin.append_ #[xt, xt] t #[.slice a n c, .slice a2 m c2]).run P w = r → (execOp act.eval ⟨some d, .call ⟨.builtin .append, #[x, y], #[xt, xt]⟩, t, pos, aft, none⟩).run P w = r.andThen fun u w' => .ok (.value u) w' := fun r hr => by
   rw [← hr]
   simp [execOp, resolve, invoke, builtin, k.env.eval hx, k.env.eval hy]
  have k' := sat_del hi k.sat
  obtain ⟨q1, q2, q3, q4, q5⟩ := own_cells k'
  by_cases hm0 : m = 0
  ·subst hm0
   have hys : ys = [] := List.eq_nil_of_length_eq_zero r1
   subst hys
   refine ⟨(a, c), trivial, w, by rw [hexec _ (run_append_zero hu i1 q3)]; rfl, sat_back hi ?_⟩
   simpa using k'
  ·rcases r3 with r3 | ⟨b2, o2, cs2, e2, f2, ra, rb, rg⟩
   ·exact absurd r3 hm0
   ·subst ra
    have hnews : ∀ j u, ys.flatten[j]? = some u → w.cell? ((⟨b2, o2, none⟩ : Addr).add j) = some u := fun j u hj => by
     rw [Addr.add_lit]
     unfold heapOf at rb
     simp [World.cell?, rb, rg j u hj]
    have hl2 : ys.flatten.length = m * fi.size := by rw [i2, hz]; exact hrl
    have hels2 : ∀ x ∈ els ++ ys, x.length = z ∧ ∀ v ∈ x, v.oneCell' = true := fun x hx => by
     rcases List.mem_append.1 hx with h | h
     ·exact q2 x h
     ·exact r2 x h
    have hlen2 : (els ++ ys).length = n + m := by simp [q1, r1]
    have hzc : zv.cells.size = z := by rw [i5]; simpa using hzl
    have hcap := grownCap_ge w (n + m)
    have hcap2 := fun old => grownCap_le_maxLen w (n + m) old e (by simp only [maxLen]; omega)
    rcases q5 with ⟨rfl, rfl, ks⟩ | ⟨b, sp, rfl, ql, ks⟩
    ·have hn0 : n = 0 := by omega
     subst hn0
     have hels : els = [] := List.eq_nil_of_length_eq_zero q1
     subst hels
     have hrun := run_append_nil (P := P) w xt t e fi zv hu i1 i4 ⟨b2, o2, none⟩ m c2 ys.flatten hl2 hnews (by omega) (by omega) (by rw [i3]; simp only [Nat.zero_add] at hb; omega)
     refine ⟨(some ⟨w.heap.size, 0, none⟩, grownCap w m 0 e), trivial, _, by rw [hexec _ hrun]; simp; rfl, sat_back hi ?_⟩
     have hg := hcap 0 e
     have hg2 := hcap2 0
     simp only [Nat.zero_add, maxLen] at hg hg2
     have hz0 := size_zeroCells zv.cells (grownCap w m 0 e - m)
     rw [hzc] at hz0
     have key : ys.flatten.toArray ++ Builtin.zeroCells zv.cells (grownCap w m 0 e - m) = (ys.flatten ++ (Builtin.zeroCells zv.cells (grownCap w m 0 e - m)).toList).toArray := by simp
     rw [key]
     refine own_fold (sp := (Builtin.zeroCells zv.cells (grownCap w m 0 e - m)).toList) (by simpa using hlen2) (by simpa using hels2) (by simpa using hg) hg2 ?_ ?_
     ·simp only [List.nil_append, List.length_append, Array.length_toList, hrl, hz0]
      rw [← Nat.add_mul]; congr 1; omega
     ·exact sat.new (S := []) (F := del S i ++ F) ks rfl rfl rfl rfl
    ·have kb : w.heap[b]? = some (.cells (els.flatten ++ sp).toArray e (0, 0)) := sat.get (S := [pt b _]) (F := del S i ++ F) (n := 0) ks rfl
     have hef : els.flatten.length = n * z := by rw [flatten_len (fun x hx => (q2 x hx).1), q1]
     by_cases hroom : n + m ≤ c
     ·have hspl : (n + m) * z ≤ c * z := Nat.mul_le_mul_right z hroom
      rw [Nat.add_mul] at hspl
      have hspl2 : ys.flatten.length ≤ sp.length := by rw [List.length_append, hef] at ql; omega
      have hrun := run_append_room (P := P) w xt t e fi hu i1 b n c _ kb ⟨b2, o2, none⟩ m c2 ys.flatten hl2 hnews hone hroom (by rw [i2, hz]; simp only [List.size_toArray, List.length_append, hef]; omega)
      refine ⟨(some ⟨b, 0, none⟩, c), trivial, _, by rw [hexec _ hrun]; rfl, sat_back hi ?_⟩
      have hsh := append_shift (n := n) (sp := sp) (fun x hx => (q2 x hx).1) q1 hspl2
      rw [i2, hz]
      simp only [hsh]
      refine own_fold (sp := sp.drop ys.flatten.length) hlen2 hels2 hroom q4 ?_ ?_
      ·simp only [List.flatten_append, List.length_append, List.length_drop, hef] at ql ⊢; omega
      ·have := sat.put (S := [pt b _]) (F := del S i ++ F) (n := 0) (w' := w.setRow b ((els ++ ys).flatten ++ sp.drop ys.flatten.length).toArray) (o' := .cells ((els ++ ys).flatten ++ sp.drop ys.flatten.length).toArray e (0, 0)) ks rfl rfl rfl rfl (by
        simp only [World.setRow]
        apply Array.ext_getElem?
        intro q
        by_cases hq : q = b
        ·subst hq
         have hlt : q < w.heap.size := (Array.getElem?_eq_some_iff.1 kb).1
         rw [Array.getElem?_setIfInBounds_self_of_lt hlt, Array.getElem?_modify, if_pos rfl, kb]
         rfl
        ·rw [Array.getElem?_setIfInBounds_ne (fun h => hq h.symm), Array.getElem?_modify, if_neg (fun h => hq h.symm)])
       exact this
     ·have holds : ∀ j u, els.flatten[j]? = some u → w.cell? ((⟨b, 0, none⟩ : Addr).add j) = some u := fun j u hj => by
       rw [Addr.add_lit]
       have hlt := (List.getElem?_eq_some_iff.1 hj).1
       simp only [World.cell?, kb, Nat.zero_add]
       simp only [List.getElem?_toArray]
       simp only [Option.isSome_none, Bool.false_eq_true, if_false]
       rw [List.getElem?_append_left hlt]; exact hj
      have hfit := growslice_fits (need := n + m) (old := c) (bytes := fi.bytes) (by omega) (by rw [i3]; exact hb)
      have hrun := run_append_grow (P := P) w xt t e fi zv hu i1 i4 ⟨b, 0, none⟩ n c els.flatten (by rw [i2, hz]; exact hef) holds ⟨b2, o2, none⟩ m c2 ys.flatten hl2 hnews (by omega) (by omega) hfit
      refine ⟨(some ⟨w.heap.size, 0, none⟩, grownCap w (n + m) c e), trivial, _, by rw [hexec _ hrun]; rfl, sat_back hi ?_⟩
      have hg := hcap c e
      have hg2 := hcap2 c
      simp only [maxLen] at hg2
      have hz0 := size_zeroCells zv.cells (grownCap w (n + m) c e - (n + m))
      rw [hzc] at hz0
      have key : els.flatten.toArray ++ ys.flatten.toArray ++ Builtin.zeroCells zv.cells (grownCap w (n + m) c e - (n + m)) = ((els ++ ys).flatten ++ (Builtin.zeroCells zv.cells (grownCap w (n + m) c e - (n + m))).toList).toArray := by simp
      rw [key]
      refine own_fold (sp := (Builtin.zeroCells zv.cells (grownCap w (n + m) c e - (n + m))).toList) hlen2 hels2 hg hg2 ?_ ?_
      ·simp only [List.flatten_append, List.length_append, Array.length_toList, hrl, hef, hz0]
       rw [← Nat.add_mul, ← Nat.add_mul]; congr 1; omega
      ·have ks' : sat G w (del S i ++ F) := ks.ent (Ent.drop _ _)
       exact sat.new (S := []) (F := del S i ++ F) ks' rfl rfl rfl rfl) (fun q _ => next q.1 q.2)
theorem o_makeSlice {q : Nat} {zc : Value} (hx : ev env x = some (.int .i64 (q : Int))) (hy : ev env y = some (.int .i64 (q : Int))) (hT : T.tab xt = some ti) (hd : ti.desc = .slice e) (hE : T.tab e = some ei) (hz : ei.zero = [zc]) (hone : zc.oneCell' = true) (hb : q * ei.bytes ≤ 140737488355328) (hq : q ≤ 4611686018427387904) (hs1 : ei.size = 1) (hN : ok N d)
  (next : ∀ b, TripL P N ops rest D ((d, .slice (some ⟨b, 0, none⟩) q q) :: env) (own (some ⟨b, 0, none⟩) q q e 1 (List.replicate q [zc]) :: S) Q) : TripL P N ops (⟨some d, .makeSlice xt x y, t, pos, aft, none⟩ :: rest) D env S Q :=
 l_op_ex (α := Nat) (p := fun _ => True) (v := fun b => .slice (some ⟨b, 0, none⟩) q q) (S' := fun b => own (some ⟨b, 0, none⟩) q q e 1 (List.replicate q [zc]) :: S) hN (fun G F act w k => by
  have hu := T.under xt ti hT
  rw [hd] at hu
  obtain ⟨fi, i1, i2, i3, zv, i4, i5, _⟩ := T.info e ei hE
  have hzz : zv.cells = #[zc] := by rw [i5, hz]
  have h1 : ∀ q : Nat, (List.replicate q [zc]).flatten = List.replicate q zc := fun q => by
   induction q with
   | zero => rfl
   | succ q ih => rw [List.replicate_succ, List.flatten_cons, ih]; rfl
  have hfl : madeCells zv.cells ((q : Int).toNat * fi.size) = ((List.replicate q [zc]).flatten ++ []).toArray := by
   rw [i2, hs1, h1, hzz]
   have hf : ∀ j : Nat, (#[zc] : Array Value)[j % (#[zc] : Array Value).size]! = zc := fun j => by
    have : j % (#[zc] : Array Value).size = 0 := Nat.mod_one j
    rw [this]; rfl
   unfold madeCells
   rw [show (fun x : Nat => (#[zc] : Array Value)[x % (#[zc] : Array Value).size]!) = fun _ => zc from funext hf]
   rw [List.append_nil, Int.toNat_natCast, Nat.mul_one]
   apply Array.ext'
   rw [Array.toList_map, Array.toList_range, List.map_const', List.length_range]
  have hrun := run_make (P := P) w xt e fi zv hu i1 i4 .i64 .i64 (q : Int) (q : Int) (by omega) (by omega) (by
   rw [i3, ← Int.natCast_mul, Nat.mul_comm]
   omega) (by omega)
  rw [hfl] at hrun
  refine ⟨w.heap.size, trivial, { w with heap := w.heap.push (.cells ((List.replicate q [zc]).flatten ++ []).toArray e) }, ?_, ?_⟩
  ·simp only [execOp, k.env.eval hx, k.env.eval hy, Sem.run_bind, hrun, Result.andThen_ok]
   rfl
  ·refine own_fold (by simp) ?_ (Nat.le_refl _) (by omega) (by simp) (sat.new (w' := { w with heap := w.heap.push (.cells ((List.replicate q [zc]).flatten ++ []).toArray e) }) k.sat rfl rfl rfl rfl)
   intro x hx
   rw [List.eq_of_mem_replicate hx]
   exact ⟨rfl, fun v hv => by rw [List.mem_singleton.1 hv]; exact hone⟩) (fun b _ => next b)
end ops
end Go.Ox
end
