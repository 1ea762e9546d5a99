/- WholeKept, part 31. No condition. -/
import Derived.Lib.AppendZerosOnto
import Derived.Test.YtonpakokjgloaaaGreatOx11
import Derived.Test.YtonpakokjgloaaaGreatOx30
set_option linter.all false
section
namespace Go.Ox
open Go Go.Proofs
theorem info5 : ∃ ti, Tryz.prog.info? 5 = some ti ∧ ti.size = 1 ∧ ti.bytes = 1 ∧ ∃ z, ti.zero = some z ∧ z.cells = #[.int .u8 0] := by
 obtain ⟨ti, h1, h2, h3, z, h4, h5, _⟩ := Tab.info (P := Tryz.prog) 5 i5 rfl
 exact ⟨ti, h1, h2, h3, z, h4, h5⟩
theorem zeroCells_one (m : Nat) : Builtin.zeroCells #[Value.int .u8 0] m = (List.replicate m (Value.int .u8 0)).toArray := by
 unfold Builtin.zeroCells
 apply Array.ext'
 simp
 apply List.ext_getElem?
 intro i
 simp [List.getElem?_replicate, List.getElem?_map, List.getElem?_range]
 by_cases h : i < m <;> simp [h, Nat.mod_one]
section
variable {N : Nat} {D : List Deferred} {env : KEnv} {S : List Asn} {Q : Post} {ops rest : List Oper}
variable {d : Tmp} {t : TypeId} {pos : String} {aft : Array Edge} {x y : Operand} {a : Option Addr} {n c m : Nat} {bs : List Nat} {f : Asn → List Asn}
theorem run_append_room_z (w : World) (b n c m : Nat) (cur : Array Value) (hg : w.heap[b]? = some (.cells cur 5 (0, 0))) (h1 : 1 ≤ m) (hm : m ≤ 1099511627776) (hroom : n + m ≤ c) (hfit : n + m ≤ cur.size) (ty : TypeId) :
  (Builtin.append_ #[22, 3] ty #[.slice (some ⟨b, 0, none⟩) n c, .int .i64 (m : Int)]).run Tryz.prog w =
   .ok (.slice (some ⟨b, 0, none⟩) (n + m) c) (w.setRow b (cur.toList.take n ++ List.replicate m (Value.int .u8 0) ++ cur.toList.drop (n + m)).toArray) := by
 obtain ⟨i, j1, j2, j3, z, j4, j5⟩ := info5
 have hu : Tryz.prog.underlying 22 = some (.slice 5) := Tryz.underlying22
 have h3 : Tryz.prog.underlying 3 = some (.int .i64) := Tab.under (P := Tryz.prog) 3 i3 rfl
 have hst := run_storeCells_at Tryz.prog b n 5 (List.replicate m (Value.int .u8 0)) 0 cur w hg (by simpa using hfit) (fun u hu => by rw [List.eq_of_mem_replicate hu]; rfl)
 simp only [Nat.add_zero, List.length_replicate] at hst
 have hw : IntKind.i64.wrap (m : Int) = m := by rw [IntKind.wrap_i64]; omega
 have hneg : ¬ ((m : Int) < 0) := by omega
 have h48 : ¬ (281474976710656 < (m : Int)) := by omega
 have hm0 : m ≠ 0 := by omega
 simp [Builtin.append_, asInt, asIntOf, run_underlying hu, run_underlying h3, sizeOf, typeInfo, zeroValue, j1, j2, j3, j4, j5, hw, hneg, h48, hm0, hroom, zeroCells_one, Addr.add_lit, hst]
theorem c_appendZ (hx : ev env x = some (.slice a n c)) (hy : ev env y = some (.int .i64 (m : Int))) (hc : Hole S (own a n c 5 1 (vb bs)) f) (h1 : 1 ≤ m) (hm : n + m ≤ 1099511627776) (hN : ok N d)
  (next : ∀ a' c', TripL Tryz.prog N ops rest D ((d, .slice a' (n + m) c') :: env) (f (own a' (n + m) c' 5 1 (vb (bs ++ List.replicate m 0)))) Q) : TripL Tryz.prog N ops (⟨some d, .call ⟨.builtin .append, #[x, y], #[22, 3]⟩, t, pos, aft, none⟩ :: rest) D env S Q := by
 obtain ⟨i, hi, hp⟩ := hc.at
 refine l_op_ex (α := Option Addr × Nat) (p := fun _ => True) (v := fun q => .slice q.1 (n + m) q.2) (S' := fun q => f (own q.1 (n + m) q.2 5 1 (vb (bs ++ List.replicate m 0)))) hN (fun G F act w k => ?_) (fun q _ => next q.1 q.2)
 have hu : Tryz.prog.underlying 22 = some (.slice 5) := Tryz.underlying22
 have h3 : Tryz.prog.underlying 3 = some (.int .i64) := Tab.under (P := Tryz.prog) 3 i3 rfl
 have hexec : ∀ (r : Result Value), (Builtin.append_ #[22, 3] t #[.slice a n c, .int .i64 (m : Int)]).run Tryz.prog w = r → (execOp act.eval ⟨some d, .call ⟨.builtin .append, #[x, y], #[22, 3]⟩, t, pos, aft, none⟩).run Tryz.prog w = r.andThen fun u w' => .ok (.value u) w' := fun r hr => by
  rw [← hr]
  simp [execOp, resolve, invoke, builtin, k.env.eval hx, k.env.eval hy]
 have k' := sat_del hi k.sat
 obtain ⟨q1, q2, q3, q4, q5⟩ := own_cells k'
 have hbl : bs.length = n := by simpa [vb] using q1
 have hels : ∀ x ∈ vb (bs ++ List.replicate m 0), x.length = 1 ∧ ∀ v ∈ x, v.oneCell' = true := vb_ok _
 have hlen : (vb (bs ++ List.replicate m 0)).length = n + m := by simp [vb, hbl]
 have hfl : (vb (bs ++ List.replicate m 0)).flatten = (vb bs).flatten ++ List.replicate m (Value.int .u8 0) := by
  rw [vb_flatten, vb_flatten]; simp
 have hbf : (vb bs).flatten.length = n := by rw [vb_flatten]; simp [hbl]
 obtain ⟨ei, i1, i2, i3', z, i4, i5'⟩ := info5
 have hgrow : c < n + m → (Builtin.firstCells ei.size n (.slice a n c)).run Tryz.prog w.drew = .ok (vb bs).flatten.toArray w.drew → ∀ ks : sat G w (del S i ++ F), ∃ q : Option Addr × Nat, True ∧ ∃ w', (execOp act.eval ⟨some d, .call ⟨.builtin .append, #[x, y], #[22, 3]⟩, t, pos, aft, none⟩).run Tryz.prog w = .ok (.value (.slice q.1 (n + m) q.2)) w' ∧ sat G w' (f (own q.1 (n + m) q.2 5 1 (vb (bs ++ List.replicate m 0))) ++ F) := by
  intro hg hold ks
  have hfit := growslice_fits (need := n + m) (old := c) (bytes := ei.bytes) (by omega) (by rw [i3']; omega)
  have hrun := Lib.run_append_grow_zeros w 22 3 t 5 ei z .i64 .i64 hu h3 i1 i4 a n c (vb bs).flatten hold m (by omega) (by omega) hg (by omega) (by rw [i3']; omega) hfit
  have hcap := grownCap_ge w (n + m) c 5
  have hcap2 := grownCap_le_maxLen w (n + m) c 5 (by simp only [maxLen]; omega)
  simp only [maxLen] at hcap2
  refine ⟨(some ⟨w.heap.size, 0, none⟩, grownCap w (n + m) c 5), trivial, _, by rw [hexec _ hrun]; rfl, ?_⟩
  rw [← hp, i5', zeroCells_one, zeroCells_one]
  have key : (vb bs).flatten.toArray ++ (List.replicate m (Value.int .u8 0)).toArray ++ (List.replicate (grownCap w (n + m) c 5 - (n + m)) (Value.int .u8 0)).toArray = ((vb (bs ++ List.replicate m 0)).flatten ++ List.replicate (grownCap w (n + m) c 5 - (n + m)) (Value.int .u8 0)).toArray := by
   rw [hfl]; simp
  rw [key]
  refine sat_back hi (own_fold (sp := List.replicate (grownCap w (n + m) c 5 - (n + m)) (Value.int .u8 0)) hlen hels hcap hcap2 ?_ ?_)
  ·rw [hfl]; simp only [List.length_append, hbf, List.length_replicate]; omega
  ·exact sat.new (S := []) (F := del S i ++ F) ks rfl rfl rfl rfl
 rcases q5 with ⟨rfl, rfl, ks⟩ | ⟨b, sp, rfl, ql, ks⟩
 ·have hn0 : n = 0 := by omega
  subst hn0
  have hb0 : bs = [] := List.eq_nil_of_length_eq_zero hbl
  refine hgrow (by omega) ?_ ks
  subst hb0
  rw [i2]
  exact run_firstCells_none w.drew 1 0 0 0
 ·have kb : w.heap[b]? = some (.cells ((vb bs).flatten ++ sp).toArray 5 (0, 0)) := sat.get (S := [pt b _]) (F := del S i ++ F) (n := 0) ks rfl
  by_cases hroom : n + m ≤ c
  ·have hsz : ((vb bs).flatten ++ sp).length = c := by rw [ql, Nat.mul_one]
   have hrun := run_append_room_z w b n c m _ kb h1 (by omega) hroom (by simp only [List.size_toArray, hsz]; exact hroom) t
   refine ⟨(some ⟨b, 0, none⟩, c), trivial, _, by rw [hexec _ hrun]; rfl, ?_⟩
   rw [← hp]
   have hsh : (((vb bs).flatten ++ sp).toArray.toList.take n ++ List.replicate m (Value.int .u8 0) ++ ((vb bs).flatten ++ sp).toArray.toList.drop (n + m)) = (vb (bs ++ List.replicate m 0)).flatten ++ sp.drop m := by
    rw [hfl]
    simp only []
    rw [List.take_append_of_le_length (by omega), List.take_of_length_le (by omega), List.drop_append, List.drop_of_length_le (by omega), List.nil_append, hbf, Nat.add_sub_cancel_left]
   rw [hsh]
   refine sat_back hi (own_fold (sp := sp.drop m) hlen hels hroom q4 ?_ ?_)
   ·rw [hfl]; simp only [List.length_append, hbf, List.length_replicate, List.length_drop] at hsz ⊢; omega
   ·have := sat.put (S := [pt b _]) (F := del S i ++ F) (n := 0) (w' := w.setRow b ((vb (bs ++ List.replicate m 0)).flatten ++ sp.drop m).toArray) (o' := .cells ((vb (bs ++ List.replicate m 0)).flatten ++ sp.drop m).toArray 5 (0, 0)) ks rfl rfl rfl rfl (by
     simp only [World.setRow]
     apply Array.ext_getElem?
     intro q
     by_cases hq : q = b
     ·subst hq
      have hlt : q < w.heap.size := (Array.getElem?_eq_some_iff.1 kb).1
      rw [Array.getElem?_setIfInBounds_self_of_lt hlt, Array.getElem?_modify, if_pos rfl, kb]
      rfl
     ·rw [Array.getElem?_setIfInBounds_ne (fun h => hq h.symm), Array.getElem?_modify, if_neg (fun h => hq h.symm)])
    exact this
  ·refine hgrow (by omega) ?_ (ks.ent (Ent.drop _ _))
   rw [i2]
   refine run_firstCells_some w.drew 1 n ⟨b, 0, none⟩ n c (vb bs).flatten (by rw [hbf, Nat.mul_one]) fun j u hj => ?_
   rw [Addr.add_lit]
   have hlt := (List.getElem?_eq_some_iff.1 hj).1
   have : w.drew.heap = w.heap := rfl
   simp only [World.cell?, this, kb, Nat.zero_add, List.getElem?_toArray, Option.isSome_none, Bool.false_eq_true, if_false]
   rw [List.getElem?_append_left hlt]; exact hj
end
end Go.Ox
end
section
namespace Go.Ox
open Go Go.Proofs
def frzC (b : Nat) (bs : List Nat) : Asn := pt b (.cells (bs.map fun (x : Nat) => Value.int .u8 (x : Int)).toArray 5 (bs.length, bs.length + 1))
theorem frz_rds (b : Nat) (bs : List Nat) : Rds [frzC b bs] (some ⟨b, 0, none⟩) bs.length 1 (vb bs) := fun h hs => by
 obtain ⟨h1, _, _, s1, _, a, _⟩ := hs
 refine ⟨by simp [vb], vb_ok _, .inr ⟨b, 0, _, _, _, rfl, s1 _ _ a, fun j v hj => ?_⟩⟩
 rw [vb_flatten] at hj
 simpa using hj
section
variable {N : Nat} {D : List Deferred} {env : KEnv} {S : List Asn} {Q : Post} {ops rest : List Oper}
variable {d : Tmp} {t : TypeId} {pos : String} {aft : Array Edge} {x y : Operand} {a : Option Addr} {n c m b : Nat} {bs : List Nat} {f : Asn → List Asn}
theorem freeze_heap {w : World} {b k : Nat} {C : Array Value} {e : TypeId} (hb : w.heap[b]? = some (.cells C e (0, 0))) : w.freeze ⟨b, k, none⟩ 1 = { w with heap := w.heap.setIfInBounds b (.cells C e (k, k + 1)) } := by
 unfold World.freeze
 rw [if_neg (by decide)]
 congr 1
 apply Array.ext_getElem?
 intro q
 by_cases hq : q = b
 ·subst hq
  have hlt : q < w.heap.size := (Array.getElem?_eq_some_iff.1 hb).1
  rw [Array.getElem?_setIfInBounds_self_of_lt hlt, Array.getElem?_modify, if_pos rfl, hb]
  rfl
 ·rw [Array.getElem?_setIfInBounds_ne (fun h => hq h.symm), Array.getElem?_modify, if_neg (fun h => hq h.symm)]
theorem o_convSl (hx : ev env x = some (.slice (some ⟨b, 0, none⟩) n c)) (hc : Hole S (own (some ⟨b, 0, none⟩) n n 5 1 (vb bs)) f) (hN : ok N d)
  (next : TripL Tryz.prog N ops rest D ((d, .slice (some ⟨b, 0, none⟩) n c) :: env) (f (frzC b bs)) Q) : TripL Tryz.prog N ops (⟨some d, .convert 22 22 x, t, pos, aft, none⟩ :: rest) D env S Q := by
 obtain ⟨i, hi, hp⟩ := hc.at
 refine l_op hN (fun G F act w k => ?_) next
 have hu : Tryz.prog.underlying 22 = some (.slice 5) := Tryz.underlying22
 have h5 : Tryz.prog.underlying 5 = some (.int .u8) := Tab.under (P := Tryz.prog) 5 i5 rfl
 obtain ⟨q1, q2, q3, q4, q5⟩ := own_cells (sat_del hi k.sat)
 have hbl : bs.length = n := by simpa [vb] using q1
 rcases q5 with ⟨h, _⟩ | ⟨b', sp, hb', ql, ks⟩
 ·cases h
 ·cases hb'
  have hsp : sp = [] := by
   have : (vb bs).flatten.length = n := by rw [vb_flatten]; simp [hbl]
   rw [List.length_append, this, Nat.mul_one] at ql
   exact List.eq_nil_of_length_eq_zero (by omega)
  subst hsp
  rw [List.append_nil, vb_flatten] at ks
  have kb : w.heap[b]? = some (.cells (bs.map fun (x : Nat) => Value.int .u8 (x : Int)).toArray 5 (0, 0)) := sat.get (S := [pt b _]) (F := del S i ++ F) (n := 0) ks rfl
  have hsh : w.shape? b = some (5, bs.length) := by unfold World.shape?; rw [kb]; simp
  have hfr := freeze_heap (w := w) (k := bs.length) kb
  refine ⟨w.freeze ⟨b, bs.length, none⟩ 1, ?_, ?_⟩
  ·simp [execOp, convert, k.env.eval hx, run_underlying hu, run_underlying h5, markStringish, hsh]
  ·rw [hfr, ← hp]
   exact sat_back hi (sat.put (S := [pt b _]) (F := del S i ++ F) (n := 0) (o' := .cells (bs.map fun (x : Nat) => Value.int .u8 (x : Int)).toArray 5 (bs.length, bs.length + 1)) ks rfl rfl rfl rfl rfl)
theorem c_appendNew {xt e : TypeId} {ti ei : TInf} {zz c2 : Nat} {a2 : Option Addr} {els ys : List (List Value)} (hx : ev env x = some (.slice (some ⟨b, 0, none⟩) n c)) (hy : ev env y = some (.slice a2 m c2)) (hrx : Rds S (some ⟨b, 0, none⟩) n zz els) (hn : 1 ≤ n) (hr : Rds S a2 m zz ys) (hm1 : 1 ≤ m) (hroom : c < n + m) (hc : c ≤ 4611686018427387904)
  (hT : Tab.tab Tryz.prog xt = some ti) (hd : ti.desc = .slice e) (hE : Tab.tab Tryz.prog e = some ei) (hz : ei.size = zz) (hzl : ei.zero.length = zz) (hb : (n + m) * ei.bytes ≤ 140737488355328) (hm : n + m ≤ 4611686018427387904) (hN : ok N d)
  (next : ∀ a' c', TripL Tryz.prog N ops rest D ((d, .slice a' (n + m) c') :: env) (own a' (n + m) c' e zz (els ++ ys) :: S) Q) : TripL Tryz.prog N ops (⟨some d, .call ⟨.builtin .append, #[x, y], #[xt, xt]⟩, t, pos, aft, none⟩ :: rest) D env S Q :=
 l_op_ex (α := Option Addr × Nat) (p := fun _ => True) (v := fun q => .slice q.1 (n + m) q.2) (S' := fun q => own q.1 (n + m) q.2 e zz (els ++ ys) :: S) hN (fun G F act w k => by
  have hu := Tab.under (P := Tryz.prog) xt ti hT
  rw [hd] at hu
  obtain ⟨fi, i1, i2, i3, zv, i4, i5, _⟩ := Tab.info (P := Tryz.prog) e ei hE
  obtain ⟨x1, x2, x3⟩ := hrx _ (k.sat.ent (Ent.left S F)).heap
  obtain ⟨r1, r2, r3⟩ := hr _ (k.sat.ent (Ent.left S F)).heap
  have hexec : ∀ (r : Result Value), (Builtin.append_ #[xt, xt] t #[.slice (some ⟨b, 0, none⟩) n c, .slice a2 m c2]).run Tryz.prog w = r → (execOp act.eval ⟨some d, .call ⟨.builtin .append, #[x, y], #[xt, xt]⟩, t, pos, aft, none⟩).run Tryz.prog w = r.andThen fun u w' => .ok (.value u) w' := fun r hr => by
   rw [← hr]
   simp [execOp, resolve, invoke, builtin, k.env.eval hx, k.env.eval hy]
  have hel : els.flatten.length = n * zz := by rw [flatten_len (fun x hx => (x2 x hx).1), x1]
  have hyl : ys.flatten.length = m * zz := by rw [flatten_len (fun x hx => (r2 x hx).1), r1]
  rcases x3 with x3 | ⟨b1, o1, cs1, e1, f1, xa, xb, xg⟩
  ·omega
  rcases r3 with r3 | ⟨b2, o2, cs2, e2, f2, ra, rb, rg⟩
  ·omega
  cases xa; subst ra
  have holds : ∀ j u, els.flatten[j]? = some u → w.cell? ((⟨b, 0, none⟩ : Addr).add j) = some u := fun j u hj => by
   rw [Addr.add_lit]
   unfold heapOf at xb
   simp [World.cell?, xb, xg j u hj]
   simpa using xg j u hj
  have hnews : ∀ j u, ys.flatten[j]? = some u → w.cell? ((⟨b2, o2, none⟩ : Addr).add j) = some u := fun j u hj => by
   rw [Addr.add_lit]
   unfold heapOf at rb
   simp [World.cell?, rb, rg j u hj]
  have hfit := growslice_fits (need := n + m) (old := c) (bytes := fi.bytes) (by omega) (by rw [i3]; exact hb)
  have hrun := run_append_grow (P := Tryz.prog) w xt t e fi zv hu i1 i4 ⟨b, 0, none⟩ n c els.flatten (by rw [i2, hz]; exact hel) holds ⟨b2, o2, none⟩ m c2 ys.flatten (by rw [i2, hz]; exact hyl) hnews (by omega) (by omega) hfit
  have hg := grownCap_ge w (n + m) c e
  have hg2 := grownCap_le_maxLen w (n + m) c e (by simp only [maxLen]; omega)
  simp only [maxLen] at hg2
  have hzc : zv.cells.size = zz := by rw [i5]; simpa using hzl
  have hz0 := size_zeroCells zv.cells (grownCap w (n + m) c e - (n + m))
  rw [hzc] at hz0
  refine ⟨(some ⟨w.heap.size, 0, none⟩, grownCap w (n + m) c e), trivial, _, by rw [hexec _ hrun]; rfl, ?_⟩
  have key : els.flatten.toArray ++ ys.flatten.toArray ++ Builtin.zeroCells zv.cells (grownCap w (n + m) c e - (n + m)) = ((els ++ ys).flatten ++ (Builtin.zeroCells zv.cells (grownCap w (n + m) c e - (n + m))).toList).toArray := by simp
  rw [key]
  refine own_fold (sp := (Builtin.zeroCells zv.cells (grownCap w (n + m) c e - (n + m))).toList) (by simp [x1, r1]) (fun x hx => ?_) hg hg2 ?_ ?_
  ·rcases List.mem_append.1 hx with h | h
   ·exact x2 x h
   ·exact r2 x h
  ·simp only [List.flatten_append, List.length_append, Array.length_toList, hyl, hel, hz0]
   rw [← Nat.add_mul, ← Nat.add_mul]; rw [Nat.add_sub_of_le hg]
  ·exact sat.new (S := []) (F := S ++ F) k.sat rfl rfl rfl rfl) (fun q _ => next q.1 q.2)
end
end Go.Ox
end
section
set_option maxRecDepth 100000
set_option maxHeartbeats 1600000
namespace Go.Ox
open Go Go.Proofs
structure Su where
 g : Nat
 r : Nat
 c : Nat
 t : Nat
 o : Nat
def Su.ok (s : Su) : Prop := 1 ≤ s.g ∧ s.g ≤ 1099511627776 ∧ 1 ≤ s.r ∧ s.r < 1048576 ∧ s.c < 16 ∧ s.t ≤ 16777216 ∧ s.o ≤ 1048576
def Su.cells (s : Su) : List Value := [.int .i64 (s.g : Int), .int .i64 (s.r : Int), .int .i64 (s.c : Int), .int .i64 (s.t : Int), .int .i64 (s.o : Int)]
def Su.v (s : Su) : Value := .agg s.cells.toArray
theorem s_suMay (s : Su) (hs : s.ok) : Spec Tryz.prog 252 [s.v] [] (fun u S => u = .bool true ∧ S = []) := by
 obtain ⟨h1, h2, h3, h4, h5, h6, h7⟩ := hs
 refine spec_of Tryz.func252 rfl Tryz.results252 Tryz.ntmps252 rfl ?_
 refine t_same [] rfl ?_
 show Trip _ _ _ _ (numF 0 [.agg #[.int .i64 (s.g : Int), .int .i64 (s.r : Int), .int .i64 (s.c : Int), .int .i64 (s.t : Int), .int .i64 (s.o : Int)]]) _ _
 repeat' first | refine wb fun _ => ?_ | refine wk ?_ | refine wc ?_ ?_ <;> intro h <;> try omega | fail
 exact b_ret [] rfl (fun _ _ => trivial) ⟨rfl, rfl⟩
def fieldsP (s : Su) : List (Nat × Nat) := [(s.g, 6), (s.r, 4), (s.c, 1), (s.t, 4), (s.o, 4)]
def pairsV (l : List (Nat × Nat)) : List (List Value) := l.map fun p => [.int .i64 (p.1 : Int), .int .i64 (p.2 : Int)]
theorem s_suFields (s : Su) : Spec Tryz.prog 253 [s.v] [] (fun u S => ∃ b, u = .slice (some ⟨b, 0, none⟩) 5 5 ∧ S = [own (some ⟨b, 0, none⟩) 5 5 349 2 (pairsV (fieldsP s))]) := by
 refine spec_of Tryz.func253 rfl Tryz.results253 Tryz.ntmps253 rfl ?_
 show Trip _ _ _ _ (numF 0 [.agg #[.int .i64 (s.g : Int), .int .i64 (s.r : Int), .int .i64 (s.c : Int), .int .i64 (s.t : Int), .int .i64 (s.o : Int)]]) _ _
 repeat' first | refine wb fun _ => ?_ | refine wk ?_ | refine wc ?_ ?_ <;> intro h <;> try omega | fail
 refine o_buildSlice rfl rfl rfl rfl rfl rfl rfl rfl rfl rfl rfl rfl fun pb => ?_
 repeat' first | refine wk ?_ | refine wc ?_ ?_ <;> intro h <;> try omega | fail
 exact b_ret [own (some ⟨pb, 0, none⟩) 5 5 349 2 (pairsV (fieldsP s))] rfl (Ent.pick xpkd) ⟨pb, rfl, rfl⟩
def wsum (l : List (Nat × Nat)) : Nat := (l.map (·.2)).sum
theorem s_suPack (s : Su) (hs : s.ok) : Spec Tryz.prog 182 [s.v] [] (fun u S => ∃ (a : Option Addr) (c : Nat) (bs : List Nat), bs.length = 64 ∧ (∀ b ∈ bs, b < 256) ∧ u = .tuple #[.slice a 64 c, .int .i64 0] ∧ S = [own a 64 c 5 1 (vb bs)]) := by
 refine spec_of Tryz.func182 rfl Tryz.results182 Tryz.ntmps182 rfl ?_
 show Trip _ _ _ _ (numF 0 [.agg #[.int .i64 (s.g : Int), .int .i64 (s.r : Int), .int .i64 (s.c : Int), .int .i64 (s.t : Int), .int .i64 (s.o : Int)]]) _ _
 repeat' first | refine wb fun _ => ?_ | refine wk ?_ | refine wc ?_ ?_ <;> intro h <;> try omega | fail
 refine c_call (s_suMay s hs) rfl .nil rfl rfl ?_
 rintro v S ⟨rfl, rfl⟩
 refine l_tell rfl ?_
 repeat' first | refine wk ?_ | refine wc ?_ ?_ <;> intro h <;> try omega | fail
 refine o_buildSlice rfl rfl rfl rfl rfl rfl rfl rfl rfl rfl rfl rfl fun pb => ?_
 refine o_convSl (bs := [111, 99, 116, 97, 118, 111, 48, 49]) rfl xhol rfl ?_
 refine l_tell rfl ?_
 repeat' first | refine wk ?_ | refine wc ?_ ?_ <;> intro h <;> try omega | fail
 refine c_call (s_suFields s) rfl .nil rfl rfl ?_
 rintro v S ⟨fb, rfl, rfl⟩
 refine l_tell rfl ?_
 repeat' first | refine wk ?_ | refine wc ?_ ?_ <;> intro h <;> try omega | fail
 have hpr : ∀ (i : Nat) (h : i < (fieldsP s).length), 1 ≤ (fieldsP s)[i].2 ∧ (fieldsP s)[i].2 ≤ 8 ∧ (fieldsP s)[i].1 < 256 ^ (fieldsP s)[i].2 ∧ (fieldsP s)[i].1 ≤ 1152921504606846976 := by
  obtain ⟨h1, h2, h3, h4, h5, h6, h7⟩ := hs
  intro i h
  match i, h with
  | 0, _ => exact ⟨by show 1 ≤ 6; omega, by show 6 ≤ 8; omega, by show s.g < 281474976710656; omega, by show s.g ≤ _; omega⟩
  | 1, _ => exact ⟨by show 1 ≤ 4; omega, by show 4 ≤ 8; omega, by show s.r < 4294967296; omega, by show s.r ≤ _; omega⟩
  | 2, _ => exact ⟨by show 1 ≤ 1; omega, by show 1 ≤ 8; omega, by show s.c < 256; omega, by show s.c ≤ _; omega⟩
  | 3, _ => exact ⟨by show 1 ≤ 4; omega, by show 4 ≤ 8; omega, by show s.t < 4294967296; omega, by show s.t ≤ _; omega⟩
  | 4, _ => exact ⟨by show 1 ≤ 4; omega, by show 4 ≤ 8; omega, by show s.o < 4294967296; omega, by show s.o ≤ _; omega⟩
 refine t_loop (fun mm env S => ∃ (i n1 : Nat) (a1 : Option Addr) (c1 : Nat) (bs : List Nat) (X : Asn), ((i = 0 ∧ a1 = some ⟨pb, 0, none⟩ ∧ c1 = 8 ∧ n1 = 8 ∧ X = frzC pb bs) ∨ (1 ≤ i ∧ X = own a1 n1 c1 5 1 (vb bs))) ∧ i ≤ 5 ∧ mm = 5 - i ∧ n1 = 8 + wsum ((fieldsP s).take i) ∧ n1 ≤ 100 ∧ (∀ b ∈ bs, b < 256) ∧ bs.length = n1 ∧ env = [(4, .slice a1 n1 c1), (17, .slice (some ⟨fb, 0, none⟩) 5 5), (18, .int .i64 5), (19, .int .i64 (i : Int))] ∧ S = [X, own (some ⟨fb, 0, none⟩) 5 5 349 2 (pairsV (fieldsP s))]) 5 _ _ ⟨0, 8, _, 8, [111, 99, 116, 97, 118, 111, 48, 49], _, .inl ⟨rfl, rfl, rfl, rfl, rfl⟩, by omega, rfl, rfl, by omega, by decide, rfl, rfl, rfl⟩ xlss (Ent.pick xpkd) ?_
 rintro mm env S ⟨i, n1, a1, c1, bs, X, hX, hi, rfl, hn1, hn2, hbl, hbs, rfl, rfl⟩
 by_cases hin : i < 5
 ·have hin2 : i < (fieldsP s).length := hin
  obtain ⟨w1, w2, w3, w4⟩ := hpr i hin2
  have hget : (pairsV (fieldsP s))[i]? = some [.int .i64 ((fieldsP s)[i].1 : Int), .int .i64 ((fieldsP s)[i].2 : Int)] := by
   unfold pairsV; rw [List.getElem?_map, List.getElem?_eq_getElem hin2]; rfl
  have hw : wsum ((fieldsP s).take (i + 1)) = wsum ((fieldsP s).take i) + (fieldsP s)[i].2 := by
   unfold wsum; rw [List.take_add_one, List.getElem?_eq_getElem hin2, List.map_append, List.sum_append]; rfl
  have hwb : wsum ((fieldsP s).take (i + 1)) ≤ 19 := by
   match i, hin with
   | 0, _ => show 6 ≤ 19; omega
   | 1, _ => show 10 ≤ 19; omega
   | 2, _ => show 11 ≤ 19; omega
   | 3, _ => show 15 ≤ 19; omega
   | 4, _ => show 19 ≤ 19; omega
  generalize hfv : (fieldsP s)[i].1 = fv at *
  generalize hfw : (fieldsP s)[i].2 = fw at *
  repeat' first | refine wb fun _ => ?_ | refine wk ?_ | refine wc ?_ ?_ <;> intro h <;> try omega | refine l_qs (by exact q_loadRdA (j := i) (own_rds (a := some ⟨fb, 0, none⟩) (n := 5) (c := 5) (els := pairsV (fieldsP s)) xfnd) rfl rfl rfl rfl rfl hget) rfl ?_ | fail
  refine c_call (s_leBytes fv fw w1 w2 w3 w4) rfl .nil rfl rfl ?_
  rintro v S ⟨lb, rfl, rfl⟩
  refine l_tell rfl ?_
  repeat' first | refine wk ?_ | refine wc ?_ ?_ <;> intro h <;> try omega | fail
  have hfin : ∀ b ∈ bs ++ leB fv fw, b < 256 := by
   intro b hb
   rcases List.mem_append.1 hb with h | h
   ·exact hbl b h
   ·exact leB_lt _ _ _ h
  rcases hX with ⟨h0, rfl, rfl, rfl, rfl⟩ | ⟨h0, rfl⟩
  ·refine c_appendNew (zz := 1) (els := vb bs) rfl rfl (by rw [← hbs]; exact (frz_rds pb bs).up xpkd) (by omega) (own_rds (a := some ⟨lb, 0, none⟩) xfnd) w1 (by omega) (by omega) rfl rfl rfl rfl rfl (by show (8 + fw) * 1 ≤ _; omega) (by omega) rfl fun a3 c3 => ?_
   rw [vb_app]
   repeat' first | refine wk ?_ | refine wc ?_ ?_ <;> intro h <;> try omega | fail
   exact ⟨rfl, 5 - (i + 1), _, _, by omega, ⟨i + 1, 8 + fw, a3, c3, bs ++ leB fv fw, own a3 (8 + fw) c3 5 1 (vb (bs ++ leB fv fw)), .inr ⟨by omega, rfl⟩, by omega, rfl, by omega, by omega, hfin, by rw [List.length_append, leB_len]; omega, rfl, rfl⟩, xlss, Ent.pick xpkd⟩
  ·refine c_append rfl rfl xhol (own_rds (a := some ⟨lb, 0, none⟩) xfnd) rfl rfl rfl rfl rfl (by show (n1 + fw) * 1 ≤ _; omega) (by omega) rfl fun a3 c3 => ?_
   rw [vb_app]
   repeat' first | refine wk ?_ | refine wc ?_ ?_ <;> intro h <;> try omega | fail
   exact ⟨rfl, 5 - (i + 1), _, _, by omega, ⟨i + 1, n1 + fw, a3, c3, bs ++ leB fv fw, own a3 (n1 + fw) c3 5 1 (vb (bs ++ leB fv fw)), .inr ⟨by omega, rfl⟩, by omega, rfl, by omega, by omega, hfin, by rw [List.length_append, leB_len]; omega, rfl, rfl⟩, xlss, Ent.pick xpkd⟩
 ·have e : i = 5 := by omega
  subst e
  rcases hX with ⟨h0, _⟩ | ⟨_, rfl⟩
  ·omega
  have e2 : n1 = 27 := by rw [hn1]; rfl
  clear hn1
  subst e2
  repeat' first | refine wk ?_ | refine wc ?_ ?_ <;> intro h <;> try omega | fail
  refine c_appendZ (m := 33) rfl rfl xhol (by omega) (by omega) rfl fun a3 c3 => ?_
  repeat' first | refine wk ?_ | refine wc ?_ ?_ <;> intro h <;> try omega | fail
  refine o_buildSlice rfl rfl rfl rfl rfl rfl rfl rfl rfl rfl rfl rfl fun pb2 => ?_
  repeat' first | refine wk ?_ | refine wc ?_ ?_ <;> intro h <;> try omega | fail
  have hlt60 : ∀ b ∈ bs ++ List.replicate 33 0, b < 256 := by
   intro b hb
   rcases List.mem_append.1 hb with h | h
   ·exact hbl b h
   ·rw [List.eq_of_mem_replicate h]; omega
  have hl60 : (bs ++ List.replicate 33 0).length = 60 := by simp [hbs]
  generalize bs ++ List.replicate 33 0 = b60 at *
  refine c_call (s_crcOf [own a3 60 c3 5 1 (vb b60)] (some ⟨pb2, 0, none⟩) 1 [⟨a3, 60, c3, b60⟩] (by simp) (by
   intro q hq
   rcases List.mem_cons.1 hq with rfl | hq
   ·exact ⟨Rds.own 0 rfl, hl60, hlt60, by show 60 ≤ _; omega⟩
   ·cases hq)) rfl xpkd rfl rfl ?_
  rintro v S ⟨rfl, rfl⟩
  simp only [List.flatMap_cons, List.flatMap_nil, List.append_nil] at *
  have hcl := crcN_lt hlt60
  generalize crcN b60 = cr at *
  refine l_same [_, own a3 60 c3 5 1 (vb b60), _] rfl ?_
  repeat' first | refine l_qp (by (apply q_conv198; exact rfl; omega)) rfl ?_ | refine d_qp rfl (by (apply q_conv198; exact rfl; omega)) rfl ?_ | refine d_gqp rfl rfl (by (apply q_conv198; exact rfl; omega)) rfl ?_ | refine wk ?_ | refine wc ?_ ?_ <;> intro h <;> try omega | fail
  refine c_call (s_leBytes cr 4 (by omega) (by omega) (by show cr < 4294967296; omega) (by omega)) rfl .nil rfl rfl ?_
  rintro v S ⟨lb, rfl, rfl⟩
  refine l_tell rfl ?_
  repeat' first | refine wk ?_ | refine wc ?_ ?_ <;> intro h <;> try omega | fail
  refine c_append rfl rfl xhol (own_rds (a := some ⟨lb, 0, none⟩) xfnd) rfl rfl rfl rfl rfl (by show (60 + 4) * 1 ≤ _; omega) (by omega) rfl fun a4 c4 => ?_
  rw [vb_app]
  repeat' first | refine wk ?_ | refine wc ?_ ?_ <;> intro h <;> try omega | fail
  refine b_ret [own a4 64 c4 5 1 (vb (b60 ++ leB cr 4))] rfl (Ent.pick xpkd) ⟨a4, c4, b60 ++ leB cr 4, by rw [List.length_append, leB_len, hl60], ?_, rfl, rfl⟩
  intro b hb
  rcases List.mem_append.1 hb with h | h
  ·exact hlt60 b h
  ·exact leB_lt _ _ _ h
end Go.Ox
end
section
set_option maxRecDepth 100000
set_option maxHeartbeats 800000
namespace Go.Ox
open Go Go.Proofs
theorem bv_nat64 (m : Nat) (hm : m < 18446744073709551616) : (BitVec.ofInt IntKind.i64.bits (m : Int)).toNat = m := by
 show (BitVec.ofInt 64 (m : Int)).toNat = m
 rw [BitVec.ofInt_natCast, BitVec.toNat_ofNat]; omega
theorem q_and64 {env : KEnv} {x y : Operand} {t xt yt : TypeId} {m : Nat} (hx : ev env x = some (.int .i64 (m : Int))) (hy : ev env y = some (.int .i64 1)) (hm : m < 9223372036854775808) : QP Tryz.prog env (.binOp .and xt x y yt) t (.int .i64 ((m % 2 : Nat) : Int)) :=
 q_bits (op := .and) hx hy (by
  simp only
  have := bv_nat64 1 (by omega)
  simp only [Int.natCast_one] at this
  rw [BitVec.toNat_and, bv_nat64 m (by omega), this, Nat.and_one_is_mod, wrap_in _ (by omega) (by omega)])
theorem s_suPlace (g : Nat) (hg : g ≤ 1099511627776) : Spec Tryz.prog 183 [.int .i64 (g : Int)] [] (fun v S => v = .int .i64 ((64 * (g % 2) : Nat) : Int) ∧ S = []) := by
 refine spec_of Tryz.func183 rfl Tryz.results183 Tryz.ntmps183 rfl ?_
 repeat' first | refine l_qp (by (apply q_and64; exact rfl; exact rfl; omega)) rfl ?_ | refine d_qp rfl (by (apply q_and64; exact rfl; exact rfl; omega)) rfl ?_ | refine d_gqp rfl rfl (by (apply q_and64; exact rfl; exact rfl; omega)) rfl ?_ | refine wk ?_ | refine wc ?_ ?_ <;> intro h <;> try omega | fail
 exact b_ret _ rfl (Ent.refl _) ⟨rfl, rfl⟩
theorem s_suNewest (a : Option Addr) (c : Nat) : Spec Tryz.prog 189 [.slice a 0 c] [] (fun v S => v = .tuple #[.agg #[.int .i64 0, .int .i64 0, .int .i64 0, .int .i64 0, .int .i64 0], .bool false] ∧ S = []) := by
 refine spec_of_d Tryz.func189 rfl Tryz.results189 Tryz.ntmps189 rfl ?_
 repeat' first | refine wk ?_ | refine wc ?_ ?_ <;> intro h <;> try omega | fail
 refine o_alloc rfl rfl fun b2 => ?_
 repeat' first | refine wk ?_ | refine wc ?_ ?_ <;> intro h <;> try omega | fail
 refine o_alloc rfl rfl fun b4 => ?_
 repeat' first | refine l_qp (by (apply q_indexArr; exact rfl; exact rfl; exact rfl; exact rfl; exact rfl; exact rfl; exact rfl; omega; exact rfl)) rfl ?_ | refine d_qp rfl (by (apply q_indexArr; exact rfl; exact rfl; exact rfl; exact rfl; exact rfl; exact rfl; exact rfl; omega; exact rfl)) rfl ?_ | refine d_gqp rfl rfl (by (apply q_indexArr; exact rfl; exact rfl; exact rfl; exact rfl; exact rfl; exact rfl; exact rfl; omega; exact rfl)) rfl ?_ | refine l_qp (by (apply q_buildArr; exact rfl; exact rfl; exact rfl; exact rfl; exact rfl)) rfl ?_ | refine d_qp rfl (by (apply q_buildArr; exact rfl; exact rfl; exact rfl; exact rfl; exact rfl)) rfl ?_ | refine d_gqp rfl rfl (by (apply q_buildArr; exact rfl; exact rfl; exact rfl; exact rfl; exact rfl)) rfl ?_ | refine wk ?_ | refine wc ?_ ?_ <;> intro h <;> try omega | fail
 refine t_loop (fun mm env S => ∃ i, i ≤ 2 ∧ mm = 2 - i ∧ env = [(0, .slice a 0 c), (2, .pointer (some ⟨b2, 0, none⟩)), (4, .pointer (some ⟨b4, 0, none⟩)), (9, .agg #[.int .i64 0, .int .i64 64]), (10, .int .i64 (i : Nat))] ∧ S = [cellsAt b4 109 [.int .i64 0, .int .i64 0, .int .i64 0, .int .i64 0, .int .i64 0], cellsAt b2 109 [.int .i64 0, .int .i64 0, .int .i64 0, .int .i64 0, .int .i64 0]]) 2 _ _ ⟨0, by omega, by omega, rfl, rfl⟩ xlss (Ent.pick xpkd) ?_
 rintro mm env S ⟨i, hi, rfl, rfl, rfl⟩
 obtain rfl | rfl | rfl : i = 0 ∨ i = 1 ∨ i = 2 := by omega
 ·repeat' first | refine l_qp (by (apply q_indexArr; exact rfl; exact rfl; exact rfl; exact rfl; exact rfl; exact rfl; exact rfl; omega; exact rfl)) rfl ?_ | refine d_qp rfl (by (apply q_indexArr; exact rfl; exact rfl; exact rfl; exact rfl; exact rfl; exact rfl; exact rfl; omega; exact rfl)) rfl ?_ | refine d_gqp rfl rfl (by (apply q_indexArr; exact rfl; exact rfl; exact rfl; exact rfl; exact rfl; exact rfl; exact rfl; omega; exact rfl)) rfl ?_ | refine l_qp (by (apply q_buildArr; exact rfl; exact rfl; exact rfl; exact rfl; exact rfl)) rfl ?_ | refine d_qp rfl (by (apply q_buildArr; exact rfl; exact rfl; exact rfl; exact rfl; exact rfl)) rfl ?_ | refine d_gqp rfl rfl (by (apply q_buildArr; exact rfl; exact rfl; exact rfl; exact rfl; exact rfl)) rfl ?_ | refine wk ?_ | refine wc ?_ ?_ <;> intro h <;> try omega | fail
  exact ⟨rfl, 1, _, _, by omega, ⟨1, by omega, by omega, rfl, rfl⟩, xlss, Ent.pick xpkd⟩
 ·repeat' first | refine l_qp (by (apply q_indexArr; exact rfl; exact rfl; exact rfl; exact rfl; exact rfl; exact rfl; exact rfl; omega; exact rfl)) rfl ?_ | refine d_qp rfl (by (apply q_indexArr; exact rfl; exact rfl; exact rfl; exact rfl; exact rfl; exact rfl; exact rfl; omega; exact rfl)) rfl ?_ | refine d_gqp rfl rfl (by (apply q_indexArr; exact rfl; exact rfl; exact rfl; exact rfl; exact rfl; exact rfl; exact rfl; omega; exact rfl)) rfl ?_ | refine l_qp (by (apply q_buildArr; exact rfl; exact rfl; exact rfl; exact rfl; exact rfl)) rfl ?_ | refine d_qp rfl (by (apply q_buildArr; exact rfl; exact rfl; exact rfl; exact rfl; exact rfl)) rfl ?_ | refine d_gqp rfl rfl (by (apply q_buildArr; exact rfl; exact rfl; exact rfl; exact rfl; exact rfl)) rfl ?_ | refine wk ?_ | refine wc ?_ ?_ <;> intro h <;> try omega | fail
  exact ⟨rfl, 0, _, _, by omega, ⟨2, by omega, by omega, rfl, rfl⟩, xlss, Ent.pick xpkd⟩
 ·repeat' first | refine wk ?_ | refine wc ?_ ?_ <;> intro h <;> try omega | fail
  refine t_draw (.eval 0 false (.eval 1 true (.eval 2 false (.eval 3 true (.eff 4 [2] (.eff 5 [] .fin .stop) .stop))))) rfl (by kernel_rfl) ?_
  repeat' first | refine wk ?_ | refine wc ?_ ?_ <;> intro h <;> try omega | fail
  refine bd_end (out_nil [] (.cons (.cell fun N D => c_loadA rfl (.there .here) rfl rfl rfl) (.cons (.tmp rfl) .nil)) (fun _ _ => trivial) ⟨rfl, rfl⟩)
end Go.Ox
end
