/- WholeKept, part 2. No condition. -/
import Derived.LaidEqlPtr
import Derived.Laws.Pointers
import Derived.Test.YtonpakokjgloaaaGreatOx01
set_option linter.all false
section
namespace Go.Ox
open Go
theorem cells_toList (v : Value) : v.cells.toList = cellsL v := by cases v <;> rfl
theorem cells_toArray (v : Value) : v.cells = (cellsL v).toArray := by rw [← cells_toList]
def nthP : List (Nat × Nat × Bool) → Nat → Option (Nat × Nat × Bool)
 | [], _ => none
 | a :: _, 0 => some a
 | _ :: l, n + 1 => nthP l n
theorem nthP_get (l : List (Nat × Nat × Bool)) : ∀ n, nthP l n = l[n]? := by
 induction l with
 | nil => intro n; cases n <;> rfl
 | cons a l ih => intro n; cases n with
  | zero => rfl
  | succ n => simp [nthP, ih]
def evParts (env : KEnv) : List (Nat × Operand) → Option (List (Nat × Value))
 | [] => some []
 | (i, x) :: r => match ev env x with
  | none => none
  | some v => match evParts env r with
   | none => none
   | some l => some ((i, v) :: l)
theorem evParts_map {env : KEnv} {ρ : Operand → Value} (h : ∀ x u, ev env x = some u → ρ x = u) : ∀ {ps : List (Nat × Operand)} {l : List (Nat × Value)}, evParts env ps = some l → ps.map (fun (i, x) => (i, ρ x)) = l := by
 intro ps
 induction ps with
 | nil => intro l e; cases e; rfl
 | cons p ps ih =>
  obtain ⟨i, x⟩ := p
  intro l e
  unfold evParts at e
  cases hx : ev env x with
  | none => rw [hx] at e; cases e
  | some v =>
   rw [hx] at e; simp only at e
   cases hp : evParts env ps with
   | none => rw [hp] at e; cases e
   | some r => rw [hp] at e; cases e; simp [h x v hx, ih hp]
theorem foldl_set (off : Nat) : ∀ (vs : List Value) (k : Nat) (l : List Value), off + k + vs.length ≤ l.length →
  (vs.zipIdx k).foldl (fun cs (c, j) => cs.setIfInBounds (off + j) c) l.toArray = (l.take (off + k) ++ vs ++ l.drop (off + k + vs.length)).toArray := by
 intro vs
 induction vs with
 | nil => intro k l h; simp
 | cons v vs ih =>
  intro k l h
  simp only [List.length_cons] at h
  simp only [List.zipIdx_cons, List.foldl_cons]
  rw [show (l.toArray.setIfInBounds (off + k) v) = (l.set (off + k) v).toArray from by simp]
  rw [ih (k + 1) (l.set (off + k) v) (by simp; omega)]
  congr 1
  have h1 : off + (k + 1) = off + k + 1 := by omega
  rw [h1]
  have h2 : (l.set (off + k) v).take (off + k + 1) = l.take (off + k) ++ [v] := by
   rw [List.take_set, List.take_add_one]
   rw [List.set_append_right _ _ (by simp; omega)]
   have : (l.take (off + k)).length = off + k := by simp; omega
   rw [this, Nat.sub_self, List.getElem?_eq_getElem (by omega)]
   rfl
  have h3 : (l.set (off + k) v).drop (off + k + 1 + vs.length) = l.drop (off + k + (v :: vs).length) := by
   rw [List.drop_set_of_lt (by omega)]
   congr 1
   simp only [List.length_cons]; omega
  rw [h2, h3]
  simp
def fillS (pl : List (Nat × Nat × Bool)) : List Value → List (Nat × Value) → Option (List Value)
 | cells, [] => some cells
 | cells, (i, v) :: r => match nthP pl i with
  | none => none
  | some (off, size, _) => match Nat.beq (cellsL v).length size with
   | false => none
   | true => match setN cells off (cellsL v) with
    | none => none
    | some c => fillS pl c r
theorem fill_of {pl : List (Nat × Nat × Bool)} {place : Nat → Option (Nat × Nat)} (hp : ∀ i off size b, nthP pl i = some (off, size, b) → place i = some (off, size)) :
  ∀ {ps : List (Nat × Value)} {cells r : List Value}, fillS pl cells ps = some r → Instr.fill place cells.toArray ps = some r.toArray := by
 intro ps
 induction ps with
 | nil => intro cells r h; cases h; rfl
 | cons p ps ih =>
  obtain ⟨i, v⟩ := p
  intro cells r h
  unfold fillS at h
  cases hn : nthP pl i with
  | none => rw [hn] at h; cases h
  | some q =>
   obtain ⟨off, size, b⟩ := q
   rw [hn] at h; simp only at h
   cases hb : Nat.beq (cellsL v).length size with
   | false => rw [hb] at h; cases h
   | true =>
    rw [hb] at h; simp only at h
    have hsz := Nat.eq_of_beq_eq_true hb
    cases hs : setN cells off (cellsL v) with
    | none => rw [hs] at h; cases h
    | some c =>
     rw [hs] at h; simp only at h
     obtain ⟨e, f⟩ := setN_spec hs
     have hcs : v.cells.size = size := by rw [cells_toArray]; simpa using hsz
     have hle : ¬ (v.cells.size ≠ size ∨ off + v.cells.size > cells.toArray.size) := by
      rw [hcs, ← hsz]; simp; omega
     unfold Instr.fill
     rw [hp i off size b hn]
     simp only [Bool.or_eq_true, decide_eq_true_eq]
     rw [if_neg (by simpa using hle)]
     rw [show v.cells.zipIdx.foldl (fun cs (c, j) => cs.setIfInBounds (off + j) c) cells.toArray = c.toArray from by
      rw [cells_toArray]
      have hf := foldl_set off (cellsL v) 0 cells (by omega)
      simp only [Nat.add_zero] at hf
      rw [e, ← hf]
      rw [← Array.foldl_toList]
      simp]
     exact ih h
section ops
variable {P : Program} {N : Nat} {D : List Deferred} {env : KEnv} {S : List Asn} {Q : Post} {ops rest : List Oper}
variable {d : Tmp} {t : TypeId} {pos : String} {aft : Array Edge}
variable {x y z : Operand} {u v : Value} {m n : Int} {k : IntKind} {xt yt : TypeId} {a : Addr} {b off e i : Nat} {l : List Value}
theorem q_nilCheck (hx : ev env x = some (.pointer (some a)))  : QP P env (.nilCheck x) t (.pointer (some a)) := .mk fun ρ h w d pos aft => by simp [execOp, h x _ hx]
theorem q_extract {vs : Array Value} {j : Nat} (hx : ev env x = some (.tuple vs)) (hv : nth vs.toList j = some v)  : QP P env (.extract x j) t (v) := .mk fun ρ h w d pos aft => by
  rw [nth_get] at hv
  have : vs[j]? = some v := by simpa using hv
  simp [execOp, h x _ hx, Instr.extract, this]
theorem q_makeFunc {fn : Fn} {fs cs : List Operand} {us vs : List Value} (hf : evs env fs = some us) (hc : evs env cs = some vs) : QS P N D env S (.makeFunc fn fs.toArray cs.toArray) t (.func fn us.toArray vs.toArray) :=
 .mk fun G F a w k d pos aft => by simp [execOp, Instr.makeFunc, k.env.evals hf, k.env.evals hc]
theorem q_arith {op : BinOp} {r : Int} (hx : ev env x = some (.int k m)) (hy : ev env y = some (.int k n)) (ho : (match op with | .add => some (k.wrap (m + n)) | .sub => some (k.wrap (m - n)) | .mul => some (k.wrap (m * n)) | _ => none) = some r)  : QP P env (.binOp op xt x y yt) t (.int k r) := .mk fun ρ h w d pos aft => by cases op <;> simp at ho <;> simp [execOp, h x _ hx, h y _ hy, eqGuard, binOp, Op.intArith, ho]
theorem q_bits {op : BinOp} {r : Int} (hx : ev env x = some (.int k m)) (hy : ev env y = some (.int k n))
  (ho : (match op with | .and => some (k.wrap (BitVec.ofInt k.bits m &&& BitVec.ofInt k.bits n).toNat) | .or => some (k.wrap (BitVec.ofInt k.bits m ||| BitVec.ofInt k.bits n).toNat) | .xor => some (k.wrap (BitVec.ofInt k.bits m ^^^ BitVec.ofInt k.bits n).toNat) | _ => none) = some r)  : QP P env (.binOp op xt x y yt) t (.int k r) := .mk fun ρ h w d pos aft => by cases op <;> simp at ho <;> simp [execOp, h x _ hx, h y _ hy, eqGuard, binOp, Op.intBits, ho]
theorem q_shr {j : IntKind} (hx : ev env x = some (.int k m)) (hy : ev env y = some (.int j n)) (h0 : 0 ≤ n)  : QP P env (.binOp .shr xt x y yt) t (.int k (m.fdiv (2 ^ (min n.toNat k.bits)))) := .mk fun ρ h w d pos aft => by
  have : ¬ n < 0 := by omega
  simp [execOp, h x _ hx, h y _ hy, eqGuard, binOp, Op.shift, this]
theorem q_shl {j : IntKind} (hx : ev env x = some (.int k m)) (hy : ev env y = some (.int j n)) (h0 : 0 ≤ n)  : QP P env (.binOp .shl xt x y yt) t (.int k (k.wrap (m * 2 ^ (min n.toNat k.bits)))) := .mk fun ρ h w d pos aft => by
  have : ¬ n < 0 := by omega
  simp [execOp, h x _ hx, h y _ hy, eqGuard, binOp, Op.shift, this]
variable [T : Tab P] {ti : TInf}
theorem q_conv {j : IntKind} {ti' : TInf} (hx : ev env x = some (.int k m)) (hT : T.tab xt = some ti) (hT' : T.tab yt = some ti') (hd : ti'.desc = .int j) (hw : j.wrap m = n) : QP P env (.convert xt yt x) t (.int j n) :=
 .mk fun ρ h w d pos aft => by
  have h1 := T.under xt ti hT
  have h2 := T.under yt ti' hT'
  rw [hd] at h2
  cases hdd : ti.desc <;> rw [hdd] at h1 <;> simp [execOp, h x _ hx, convert, underlying, h1, h2, Conv.intToInt, hw]
omit T in
theorem run_ptr_eq {w : World} {A : Option Addr} {te : TypeId} (h : P.underlying xt = some (.pointer te)) :
  (Op.equal xt (.pointer A) (.pointer none)).run P w = .ok A.isNone w :=
 run_equal_pointer_nil w xt A (by simp [Program.pointee, h])
theorem q_ptrNil {A : Option Addr} {te : TypeId} (hx : ev env x = some (.pointer A)) (hy : ev env y = some (.pointer none)) (hT : T.tab xt = some ti) (hd : ti.desc = .pointer te) : QP P env (.binOp .eql xt x y yt) t (.bool A.isNone) :=
 .mk fun ρ h w d pos aft => by
  have := T.under xt ti hT
  rw [hd] at this
  simp [execOp, h x _ hx, h y _ hy, eqGuard, binOp, run_ptr_eq this]
theorem q_ptrNot {A : Option Addr} {te : TypeId} (hx : ev env x = some (.pointer A)) (hy : ev env y = some (.pointer none)) (hT : T.tab xt = some ti) (hd : ti.desc = .pointer te) : QP P env (.binOp .neq xt x y yt) t (.bool A.isSome) :=
 .mk fun ρ h w d pos aft => by
  have := T.under xt ti hT
  rw [hd] at this
  cases A <;> simp [execOp, h x _ hx, h y _ hy, eqGuard, binOp, run_ptr_eq this]
theorem q_ptrNil_t {te : TypeId} (hx : ev env x = some (.pointer none)) (hy : ev env y = some (.pointer none)) (hT : T.tab xt = some ti) (hd : ti.desc = .pointer te) : QP P env (.binOp .eql xt x y yt) t (.bool true) := q_ptrNil hx hy hT hd
theorem q_ptrNil_f {te : TypeId} (hx : ev env x = some (.pointer (some a))) (hy : ev env y = some (.pointer none)) (hT : T.tab xt = some ti) (hd : ti.desc = .pointer te) : QP P env (.binOp .eql xt x y yt) t (.bool false) := q_ptrNil hx hy hT hd
theorem q_ptrNot_t {te : TypeId} (hx : ev env x = some (.pointer none)) (hy : ev env y = some (.pointer none)) (hT : T.tab xt = some ti) (hd : ti.desc = .pointer te) : QP P env (.binOp .neq xt x y yt) t (.bool false) := q_ptrNot hx hy hT hd
theorem q_ptrNot_f {te : TypeId} (hx : ev env x = some (.pointer (some a))) (hy : ev env y = some (.pointer none)) (hT : T.tab xt = some ti) (hd : ti.desc = .pointer te) : QP P env (.binOp .neq xt x y yt) t (.bool true) := q_ptrNot hx hy hT hd
theorem q_fieldAddr {f o sz : Nat} {g : Bool} {fs : Array Field} (hx : ev env x = some (.pointer (some ⟨b, off, none⟩))) (hT : T.tab xt = some ti) (hd : ti.desc = .struct fs) (hf : nthP ti.places f = some (o, sz, g)) (hz : Nat.beq sz 0 = false)  : QP P env (.fieldAddr xt x f) t (.pointer (some ⟨b, off + o, none⟩)) := .mk fun ρ h w d pos aft => by
  obtain ⟨hl, hp⟩ := T.places xt ti fs hT hd
  rw [nthP_get] at hf
  have hlt : f < fs.size := by rw [hl]; exact (List.getElem?_eq_some_iff.1 hf).1
  obtain ⟨fi, dd, h1, h2, h3⟩ := hp f _ (Array.getElem?_eq_getElem hlt)
  rw [hf] at h3
  simp only [Option.some.injEq, Prod.mk.injEq] at h3
  obtain ⟨ho, hs, _⟩ := h3
  have hsz : fi.size ≠ 0 := by rw [← hs]; rintro rfl; cases hz
  have hu := r_under (P := P) w hT
  rw [hd] at hu
  simp [execOp, h x _ hx, Instr.fieldAt, hu, Array.getElem?_eq_getElem hlt, Instr.sureAddr, fieldPlace, sizeOf, typeInfo, h1, hsz, Addr.add_lit, ho]
theorem q_field {f o sz : Nat} {cs : Array Value} {fs : Array Field} (hx : ev env x = some (.agg cs)) (hT : T.tab xt = some ti) (hd : ti.desc = .struct fs) (hf : nthP ti.places f = some (o, sz, false)) (hv : nth cs.toList o = some v)  : QP P env (.field xt x f) t (v) := .mk fun ρ h w d pos aft => by
  obtain ⟨hl, hp⟩ := T.places xt ti fs hT hd
  rw [nthP_get] at hf
  have hlt : f < fs.size := by rw [hl]; exact (List.getElem?_eq_some_iff.1 hf).1
  obtain ⟨fi, dd, h1, h2, h3⟩ := hp f _ (Array.getElem?_eq_getElem hlt)
  rw [hf] at h3
  simp only [Option.some.injEq, Prod.mk.injEq] at h3
  obtain ⟨ho, hs, ha⟩ := h3
  have hu := r_under (P := P) w hT
  rw [hd] at hu
  rw [nth_get] at hv
  have hc : cs[fs[f].offset]? = some v := by rw [← ho]; simpa using hv
  have hag : (isAgg fs[f].type).run P w = .ok false w := by
   simp only [isAgg, underlying, Sem.run_bind, run_program, Result.andThen_ok, h2]
   rw [ha]; cases dd <;> rfl
  simp [execOp, h x _ hx, Instr.field, hu, Array.getElem?_eq_getElem hlt, asAgg, part, hag, hc]
theorem q_fieldA {f o sz : Nat} {cs : Array Value} {fs : Array Field} (hx : ev env x = some (.agg cs)) (hT : T.tab xt = some ti) (hd : ti.desc = .struct fs) (hf : nthP ti.places f = some (o, sz, true)) (hv : slc cs.toList o sz = some l)  : QP P env (.field xt x f) t (.agg l.toArray) := .mk fun ρ h w d pos aft => by
  obtain ⟨hl, hp⟩ := T.places xt ti fs hT hd
  rw [nthP_get] at hf
  have hlt : f < fs.size := by rw [hl]; exact (List.getElem?_eq_some_iff.1 hf).1
  obtain ⟨fi, dd, h1, h2, h3⟩ := hp f _ (Array.getElem?_eq_getElem hlt)
  rw [hf] at h3
  simp only [Option.some.injEq, Prod.mk.injEq] at h3
  obtain ⟨ho, hs, ha⟩ := h3
  have hu := r_under (P := P) w hT
  rw [hd] at hu
  have hag : (isAgg fs[f].type).run P w = .ok true w := by
   simp only [isAgg, underlying, Sem.run_bind, run_program, Result.andThen_ok, h2]
   cases dd <;> first | rfl | (simp [aggD] at ha)
  have hl2 : cs.extract fs[f].offset (fs[f].offset + fi.size) = l.toArray := by
   apply Array.ext'
   rw [← ho, ← hs, (slc_spec hv).1]
   simp [List.take_drop, Nat.add_sub_cancel_left]
  simp [execOp, h x _ hx, Instr.field, hu, Array.getElem?_eq_getElem hlt, asAgg, part, hag, sizeOf, typeInfo, h1, hl2]
theorem q_build {fs : Array Field} {ps : List (Nat × Operand)} {vs : List (Nat × Value)} (hp : evParts env ps = some vs) (hT : T.tab xt = some ti) (hd : ti.desc = .struct fs) (hf : fillS ti.places ti.zero vs = some l)  : QP P env (.build xt ps.toArray) t (.agg l.toArray) := .mk fun ρ h w d pos aft => by
  obtain ⟨hl, hpl⟩ := T.places xt ti fs hT hd
  obtain ⟨z, hz, hzc⟩ := r_zero (P := P) w hT
  have hu := r_under (P := P) w hT
  rw [hd] at hu
  have hm : (fs.mapM (fun f => (do pure (f.offset, ← sizeOf f.type) : Sem (Nat × Nat)))).run P w = .ok (ti.places.map (fun p => (p.1, p.2.1))).toArray w := by
   have key : ∀ (ls : List Field) (ps : List (Nat × Nat × Bool)), ls.length = ps.length → (∀ (k : Nat) (f : Field), ls[k]? = some f → ∃ fi dd, P.info? f.type = some fi ∧ P.underlying f.type = some dd ∧ ps[k]? = some (f.offset, fi.size, aggD dd)) →
     (ls.mapM (fun f => (do pure (f.offset, ← sizeOf f.type) : Sem (Nat × Nat)))).run P w = .ok (ps.map (fun p => (p.1, p.2.1))) w := by
    intro ls
    induction ls with
    | nil => intro ps h _; cases ps with
     | nil => rfl
     | cons p ps => cases h
    | cons f ls ih =>
     intro ps h hh
     cases ps with
     | nil => cases h
     | cons p ps =>
      obtain ⟨fi, dd, h1, _, h3⟩ := hh 0 f rfl
      simp only [List.getElem?_cons_zero, Option.some.injEq] at h3
      subst h3
      have := ih ps (by simpa using h) (fun k f hk => by
       obtain ⟨fi, dd, q1, q2, q3⟩ := hh (k + 1) f (by simpa using hk)
       exact ⟨fi, dd, q1, q2, by simpa using q3⟩)
      simp only [List.mapM_cons, Sem.run_bind, sizeOf, typeInfo, run_program, Result.andThen_ok, h1, Sem.run_pure] at this ⊢
      rw [this]
      simp
   have := key fs.toList ti.places (by simpa using hl) (fun k f hk => hpl k f (by simpa using hk))
   rw [Array.mapM_eq_mapM_toList]
   simp only [Sem.run_map, this, Result.andThen_ok]
  have hfill := fill_of (pl := ti.places) (place := fun i => (ti.places.map (fun p => (p.1, p.2.1))).toArray[i]?) (fun i o s g hi => by
   rw [nthP_get] at hi; simp [hi]) hf
  simp only [execOp, Instr.build, Sem.run_bind, hz, Result.andThen_ok, hu, hm, hzc, Sem.run_pure]
  rw [show ((ps.toArray.map fun (i, x) => (i, ρ x)).toList) = vs from by
   simp only [List.map_toArray]
   exact evParts_map h hp]
  rw [hfill]
  rfl
omit T in
theorem o_box (hx : ev env x = some v) (hN : ok N d) (hc : cellsL v = l)
  (next : ∀ b, TripL P N ops rest D ((d, .pointer (some ⟨b, 0, none⟩)) :: env) (cellsAt b xt l :: S) Q) : TripL P N ops (⟨some d, .box xt x, t, pos, aft, none⟩ :: rest) D env S Q :=
 l_op_ex (α := Nat) (p := fun _ => True) (v := fun b => .pointer (some ⟨b, 0, none⟩)) (S' := fun b => cellsAt b xt l :: S) hN (fun G F a w k => ⟨w.heap.size, trivial, { w with heap := w.heap.push (.cells l.toArray xt) }, by
  simp [execOp, k.env.eval hx, Instr.box, newVar, newRow, cells_toArray, hc], sat.new k.sat rfl rfl rfl rfl⟩) (fun b _ => next b)
theorem o_alloc (hT : T.tab xt = some ti) (hN : ok N d)
  (next : ∀ b, TripL P N ops rest D ((d, .pointer (some ⟨b, 0, none⟩)) :: env) (cellsAt b xt ti.zero :: S) Q) : TripL P N ops (⟨some d, .alloc xt, t, pos, aft, none⟩ :: rest) D env S Q :=
 l_op_ex (α := Nat) (p := fun _ => True) (v := fun b => .pointer (some ⟨b, 0, none⟩)) (S' := fun b => cellsAt b xt ti.zero :: S) hN (fun G F a w k => by
  obtain ⟨z, hz, hzc⟩ := r_zero (P := P) w hT
  exact ⟨w.heap.size, trivial, { w with heap := w.heap.push (.cells ti.zero.toArray xt) }, by
   simp [execOp, Instr.alloc, hz, newVar, newRow, hzc], sat.new k.sat rfl rfl rfl rfl⟩) (fun b _ => next b)
theorem q_load (i : Nat) (hx : ev env x = some (.pointer (some ⟨b, off, none⟩))) (hi : at? S i = some (cellsAt b e l)) (hT : T.tab xt = some ti) (ha : ti.agg = false) (hv : nth l off = some v) : QS P N D env S (.load xt x) t v :=
 .mk fun G F a w k d pos aft => by
  have hb := k.sat.get hi
  rw [nth_get] at hv
  have hc : w.cell? ⟨b, off, none⟩ = some v := by simp [World.cell?, hb, hv]
  have hg := r_agg (P := P) w hT
  rw [ha] at hg
  simp [execOp, k.env.eval hx, Instr.loadAt, Instr.sureAddr, loadVar, hg, hc]
theorem q_loadA (i : Nat) {r : List Value} (hx : ev env x = some (.pointer (some ⟨b, off, none⟩))) (hi : at? S i = some (cellsAt b e l)) (hT : T.tab xt = some ti) (ha : ti.agg = true) (hv : slc l off ti.size = some r) : QS P N D env S (.load xt x) t (.agg r.toArray) :=
 .mk fun G F a w k d pos aft => by
  have hb := k.sat.get hi
  have hg := r_agg (P := P) w hT
  have hs := r_size (P := P) w hT
  rw [ha] at hg
  simp [execOp, k.env.eval hx, Instr.loadAt, Instr.sureAddr, loadVar, hg, hs, run_loadCells_in P w hb hv]
theorem o_store (i : Nat) {r : List Value} (hx : ev env x = some (.pointer (some ⟨b, off, none⟩))) (hi : at? S i = some (cellsAt b e l)) (hy : ev env y = some v) (hT : T.tab xt = some ti) (hz : Nat.beq (cellsL v).length ti.size = true) (hc : cellV (cellsL v) = true) (hr : setN l off (cellsL v) = some r)
  (next : TripL P N ops rest D env (put S i (cellsAt b e r)) Q) : TripL P N ops (⟨none, .store xt x y, t, pos, aft, none⟩ :: rest) D env S Q :=
 l_act (fun G F a w k => by
  have hb := k.sat.get hi
  have hs := r_size (P := P) w hT
  obtain ⟨hr1, hr2⟩ := setN_spec hr
  have hst := run_storeCells_at (P := P) b off e (cellsL v) 0 l.toArray w hb (by simpa using hr2) (cellV_spec hc)
  have hsz : v.cells.size = ti.size := by rw [cells_toArray]; simpa using Nat.eq_of_beq_eq_true hz
  simp only [Nat.add_zero] at hst
  have hl : (l.take off ++ cellsL v ++ l.drop (off + (cellsL v).length)).toArray = r.toArray := by rw [hr1]
  have hst' : (storeCells ⟨b, off, none⟩ (cellsL v)).run P w = .ok () (w.setRow b r.toArray) := by rw [hst]; congr 2
  refine ⟨w.setRow b r.toArray, ?_, ?_⟩
  ·simp [execOp, k.env.eval hx, k.env.eval hy, Instr.storeAt, Instr.sureAddr, storeVar, hs, hsz, cells_toList, hst']
  ·exact sat.put (o' := .cells r.toArray e (0, 0)) k.sat hi rfl rfl rfl (by
    simp only [World.setRow]
    apply Array.ext_getElem?
    intro q
    by_cases hq : q = b
    ·subst hq
     have hlt : q < w.heap.size := (Array.getElem?_eq_some_iff.1 hb).1
     rw [Array.getElem?_setIfInBounds_self_of_lt hlt, Array.getElem?_modify, if_pos rfl, hb]
     rfl
    ·rw [Array.getElem?_setIfInBounds_ne (fun h => hq h.symm), Array.getElem?_modify, if_neg (fun h => hq h.symm)])) next
end ops
end Go.Ox
end
