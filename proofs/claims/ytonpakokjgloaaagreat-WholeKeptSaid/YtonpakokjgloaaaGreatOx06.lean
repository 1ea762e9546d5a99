/- WholeKept, part 6. No condition. -/
import Derived.Test.YtonpakokjgloaaaGreatOx05
set_option linter.all false
section
namespace Go.Ox
open Go
def own (a : Option Addr) (n c : Nat) (e : TypeId) (z : Nat) (els : List (List Value)) : Asn := fun h =>
 els.length = n ∧ (∀ x ∈ els, x.length = z ∧ ∀ v ∈ x, v.oneCell' = true) ∧ n ≤ c ∧ c ≤ 9223372036854775807 ∧
  ((a = none ∧ c = 0) ∨ ∃ b sp, a = some ⟨b, 0, none⟩ ∧ (els.flatten ++ sp).length = c * z ∧ h b = some (.cells (els.flatten ++ sp).toArray e (0, 0)))
def Rds (S : List Asn) (a : Option Addr) (m z : Nat) (els : List (List Value)) : Prop :=
 ∀ h, star S h → els.length = m ∧ (∀ x ∈ els, x.length = z ∧ ∀ v ∈ x, v.oneCell' = true) ∧
  (m = 0 ∨ ∃ b off c e f, a = some ⟨b, off, none⟩ ∧ h b = some (.cells c e f) ∧ ∀ j v, els.flatten[j]? = some v → c[off + j]? = some v)
theorem flatten_len {els : List (List Value)} {z : Nat} (h : ∀ x ∈ els, x.length = z) : els.flatten.length = els.length * z := by
 induction els with
 | nil => simp
 | cons a l ih =>
  rw [List.flatten_cons, List.length_append, ih (fun x hx => h x (List.mem_cons_of_mem _ hx)), h a (List.mem_cons_self ..), List.length_cons, Nat.add_mul]; omega
theorem flatten_get {els : List (List Value)} {z : Nat} (h : ∀ x ∈ els, x.length = z) {k f : Nat} {r : List Value} {v : Value} (hk : els[k]? = some r) (hf : r[f]? = some v) : els.flatten[k * z + f]? = some v := by
 induction els generalizing k with
 | nil => simp at hk
 | cons a l ih =>
  have ha : a.length = z := h a (List.mem_cons_self ..)
  cases k with
  | zero =>
   simp at hk; subst hk
   have := (List.getElem?_eq_some_iff.1 hf).1
   rw [List.flatten_cons, Nat.zero_mul, Nat.zero_add, List.getElem?_append_left this]; exact hf
  | succ k =>
   have := ih (fun x hx => h x (List.mem_cons_of_mem _ hx)) (k := k) (by simpa using hk)
   rw [List.flatten_cons, List.getElem?_append_right (by rw [ha, Nat.add_mul]; omega), ha]
   have e : (k + 1) * z + f - z = k * z + f := by rw [Nat.add_mul]; omega
   rw [e]; exact this
theorem flatten_oneCell {els : List (List Value)} (h : ∀ x ∈ els, ∀ v ∈ x, v.oneCell' = true) : ∀ v ∈ els.flatten, v.oneCell' = true := fun v hv => by
 obtain ⟨x, hx, hvx⟩ := List.mem_flatten.1 hv
 exact h x hx v hvx
theorem Rds.own {S : List Asn} (i : Nat) {a : Option Addr} {n c e z : Nat} {els : List (List Value)} (hi : at? S i = some (own a n c e z els)) : Rds S a n z els := fun h hs => by
 obtain ⟨h1, _, _, s1, _, hA, _⟩ := star_perm (perm_del hi) hs
 obtain ⟨q1, q2, q3, q4, q5⟩ := hA
 refine ⟨q1, q2, ?_⟩
 rcases q5 with ⟨_, hc⟩ | ⟨b, sp, ha, hl, hb⟩
 ·left; omega
 ·right
  refine ⟨b, 0, _, e, _, ha, s1 b _ hb, fun j v hj => ?_⟩
  have hlt := (List.getElem?_eq_some_iff.1 hj).1
  rw [Nat.zero_add]
  simp only [List.getElem?_toArray]
  rw [List.getElem?_append_left hlt]; exact hj
theorem Rds.nil (S : List Asn) (a : Option Addr) (z : Nat) : Rds S a 0 z [] := fun _ _ => ⟨rfl, fun _ h => (by cases h), .inl rfl⟩
def slide (a : Option Addr) (c lo z : Nat) : Option Addr := if c = lo then a else a.map (·.add (lo * z))
theorem Rds.win {S : List Asn} {a : Option Addr} {m z : Nat} {els : List (List Value)} (h : Rds S a m z els) (c lo k : Nat) (hc : m ≤ c) (hk : lo + k ≤ m) : Rds S (slide a c lo z) k z ((els.drop lo).take k) := fun x hs => by
 obtain ⟨h1, h2, h3⟩ := h x hs
 have hlen : ((els.drop lo).take k).length = k := by rw [List.length_take, List.length_drop]; omega
 refine ⟨hlen, fun y hy => h2 y (List.mem_of_mem_drop (List.mem_of_mem_take hy)), ?_⟩
 by_cases hk0 : k = 0
 ·exact .inl hk0
 ·right
  rcases h3 with h3 | ⟨b, off, cs, e, f, ha, hb, hg⟩
  ·omega
  ·refine ⟨b, off + lo * z, cs, e, f, ?_, hb, fun j v hj => ?_⟩
   ·unfold slide; rw [if_neg (by omega), ha]; simp [Addr.add_lit]
   ·rw [Nat.add_assoc]
    refine hg _ v ?_
    have hz : ∀ x ∈ els, x.length = z := fun x hx => (h2 x hx).1
    have hfl := flatten_len (els := (els.drop lo).take k) (z := z) (fun x hx => hz x (List.mem_of_mem_drop (List.mem_of_mem_take hx)))
    have hjlt := (List.getElem?_eq_some_iff.1 hj).1
    have hz0 : 0 < z := by
     rcases Nat.eq_zero_or_pos z with q | q
     ·rw [hfl, q, Nat.mul_zero] at hjlt; omega
     ·exact q
    have hq : j / z < k := by rw [hfl, hlen] at hjlt; exact Nat.div_lt_of_lt_mul (by rw [Nat.mul_comm]; exact hjlt)
    have hsplit : j = (j / z) * z + j % z := by rw [Nat.mul_comm]; exact (Nat.div_add_mod j z).symm
    have hel : lo + j / z < els.length := by omega
    have hr : (els.drop lo).take k = (els.drop lo).take k := rfl
    have hget : ((els.drop lo).take k)[j / z]? = some els[lo + j / z] := by
     rw [List.getElem?_take, if_pos hq, List.getElem?_drop, List.getElem?_eq_getElem hel]
    have hm : j % z < els[lo + j / z].length := by rw [hz _ (List.getElem_mem hel)]; exact Nat.mod_lt _ hz0
    have hv := flatten_get (els := (els.drop lo).take k) (z := z) (fun x hx => hz x (List.mem_of_mem_drop (List.mem_of_mem_take hx))) hget (List.getElem?_eq_getElem hm)
    rw [← hsplit] at hv
    rw [hv] at hj; cases hj
    have := flatten_get (els := els) (z := z) hz (List.getElem?_eq_getElem hel) (List.getElem?_eq_getElem hm)
    rw [Nat.add_mul] at this
    rw [show lo * z + j = lo * z + j / z * z + j % z from by omega]; exact this
theorem Rds.ent {S T : List Asn} {a : Option Addr} {m z : Nat} {els : List (List Value)} (h : Rds T a m z els) (k : Ent S T) : Rds S a m z els := fun x hs => h x (k x hs)
theorem Rds.len {S : List Asn} {a : Option Addr} {m z : Nat} {els : List (List Value)} (h : Rds S a m z els) {x : PHeap} (hs : star S x) : els.length = m := (h x hs).1
theorem append_shift {z n : Nat} {els ys : List (List Value)} {sp : List Value} (hz : ∀ x ∈ els, x.length = z) (hn : els.length = n) (hlen : ys.flatten.length ≤ sp.length) :
  (els.flatten ++ sp).take (n * z) ++ ys.flatten ++ (els.flatten ++ sp).drop (n * z + ys.flatten.length) = (els ++ ys).flatten ++ sp.drop ys.flatten.length := by
 have hf : els.flatten.length = n * z := by rw [flatten_len hz, hn]
 rw [← hf, List.take_left', List.flatten_append, List.drop_append]
 ·simp [List.drop_eq_nil_of_le]
 ·rfl
section ops
variable {P : Program} {N : Nat} {D : List Deferred} {env : KEnv} {S : List Asn} {Q : Post} {ops rest : List Oper}
variable {d : Tmp} {t : TypeId} {pos : String} {aft : Array Edge}
variable {x y : Operand} {v : Value} {k : IntKind} {xt yt : TypeId} {b off e i n c m c2 z : Nat} {a a2 : Option Addr} {els ys : List (List Value)}
variable [T : Tab P] {ti ei : TInf}
theorem q_len (hx : ev env x = some (.slice a n c)) (hT : T.tab xt = some ti) (hd : ti.desc = .slice e) : QP P env (.call ⟨.builtin .len, #[x], #[xt]⟩) t (.int .i64 n) :=
 .mk fun ρ h w d pos aft => by
  have hu := r_under (P := P) w hT
  rw [hd] at hu
  simp [execOp, resolve, invoke, builtin, h x _ hx, Builtin.len_, hu, goInt]
omit T in
theorem q_min {p q : Int} {tys : Array TypeId} (hx : ev env x = some (.int k p)) (hy : ev env y = some (.int k q)) : QP P env (.call ⟨.builtin .min, #[x, y], tys⟩) t (.int k (min p q)) :=
 .mk fun ρ h w d pos aft => by
  simp [execOp, resolve, invoke, builtin, h x _ hx, h y _ hy, Builtin.min_, Builtin.min2]
  omega
omit T in
theorem q_max {p q : Int} {tys : Array TypeId} (hx : ev env x = some (.int k p)) (hy : ev env y = some (.int k q)) : QP P env (.call ⟨.builtin .max, #[x, y], tys⟩) t (.int k (max p q)) :=
 .mk fun ρ h w d pos aft => by
  simp [execOp, resolve, invoke, builtin, h x _ hx, h y _ hy, Builtin.max_, Builtin.max2]
  omega
theorem q_indexAddr {j : Nat} (hx : ev env x = some (.slice (some ⟨b, off, none⟩) n c)) (hy : ev env y = some (.int k (.ofNat j))) (hT : T.tab xt = some ti) (hd : ti.desc = .slice e) (hE : T.tab e = some ei) (hz : ei.size = z) (hj : j < n) :
  QP P env (.indexAddr xt x y) t (.pointer (some ⟨b, off + j * z, none⟩)) :=
 .mk fun ρ h w d pos aft => by
  have hu := r_under (P := P) w hT
  rw [hd] at hu
  have hs := r_size (P := P) w hE
  simp [execOp, h x _ hx, h y _ hy, Instr.indexAt, asIntOf, hu, hs, hz, Addr.add_lit]
  exact fun q => absurd hj (by omega)
theorem q_indexAddr1 {j : Nat} (hx : ev env x = some (.slice (some ⟨b, off, none⟩) n c)) (hy : ev env y = some (.int k (.ofNat j))) (hT : T.tab xt = some ti) (hd : ti.desc = .slice e) (hE : T.tab e = some ei) (hz : ei.size = 1) (hj : j < n) :
  QP P env (.indexAddr xt x y) t (.pointer (some ⟨b, off + j, none⟩)) := by
 have := q_indexAddr (t := t) hx hy hT hd hE hz hj
 simpa using this
theorem q_indexAddr2 {j : Nat} (hx : ev env x = some (.slice (some ⟨b, off, none⟩) n c)) (hy : ev env y = some (.int k (.ofNat j))) (hT : T.tab xt = some ti) (hd : ti.desc = .slice e) (hE : T.tab e = some ei) (hz : ei.size = 2) (hj : j < n) :
  QP P env (.indexAddr xt x y) t (.pointer (some ⟨b, off + j * 2, none⟩)) := by
 have := q_indexAddr (t := t) hx hy hT hd hE hz hj
 simpa using this
theorem q_indexAddr3 {j : Nat} (hx : ev env x = some (.slice (some ⟨b, off, none⟩) n c)) (hy : ev env y = some (.int k (.ofNat j))) (hT : T.tab xt = some ti) (hd : ti.desc = .slice e) (hE : T.tab e = some ei) (hz : ei.size = 3) (hj : j < n) :
  QP P env (.indexAddr xt x y) t (.pointer (some ⟨b, off + j * 3, none⟩)) := by
 have := q_indexAddr (t := t) hx hy hT hd hE hz hj
 simpa using this
theorem q_indexAddr4 {j : Nat} (hx : ev env x = some (.slice (some ⟨b, off, none⟩) n c)) (hy : ev env y = some (.int k (.ofNat j))) (hT : T.tab xt = some ti) (hd : ti.desc = .slice e) (hE : T.tab e = some ei) (hz : ei.size = 4) (hj : j < n) :
  QP P env (.indexAddr xt x y) t (.pointer (some ⟨b, off + j * 4, none⟩)) := by
 have := q_indexAddr (t := t) hx hy hT hd hE hz hj
 simpa using this
theorem q_indexAddr5 {j : Nat} (hx : ev env x = some (.slice (some ⟨b, off, none⟩) n c)) (hy : ev env y = some (.int k (.ofNat j))) (hT : T.tab xt = some ti) (hd : ti.desc = .slice e) (hE : T.tab e = some ei) (hz : ei.size = 5) (hj : j < n) :
  QP P env (.indexAddr xt x y) t (.pointer (some ⟨b, off + j * 5, none⟩)) := by
 have := q_indexAddr (t := t) hx hy hT hd hE hz hj
 simpa using this
theorem q_slice2 {lo hi : Nat} (hx : ev env x = some (.slice a n c)) {l h' : Operand} (hl : ev env l = some (.int .i64 (.ofNat lo))) (hh : ev env h' = some (.int .i64 (.ofNat hi))) (hT : T.tab xt = some ti) (hd : ti.desc = .slice e) (hE : T.tab e = some ei) (hz : ei.size = z) (h1 : lo ≤ hi) (h2 : hi ≤ c) :
  QP P env (.slice xt x (some l) (some h') none) t (.slice (slide a c lo z) (hi - lo) (c - lo)) :=
 .mk fun ρ h w d pos aft => by
  have hu := r_under (P := P) w hT
  rw [hd] at hu
  have hs := r_size (P := P) w hE
  simp [execOp, h x _ hx, h l _ hl, h h' _ hh, Instr.sliceAt, Instr.slice, hu, Instr.sliceBounds, Instr.sliceBound, asIntOf, h1, h2, hs, hz, slide]
theorem q_sliceTo {hi : Nat} (hx : ev env x = some (.slice a n c)) {h' : Operand} (hh : ev env h' = some (.int .i64 (.ofNat hi))) (hT : T.tab xt = some ti) (hd : ti.desc = .slice e) (hE : T.tab e = some ei) (hz : ei.size = z) (h2 : hi ≤ c) :
  QP P env (.slice xt x none (some h') none) t (.slice a hi c) :=
 .mk fun ρ h w d pos aft => by
  have hu := r_under (P := P) w hT
  rw [hd] at hu
  have hs := r_size (P := P) w hE
  simp [execOp, h x _ hx, h h' _ hh, Instr.sliceAt, Instr.slice, hu, Instr.sliceBounds, Instr.sliceBound, asIntOf, h2, hs, hz]
  cases a <;> simp [Addr.add]
theorem q_sliceFrom {lo : Nat} (hx : ev env x = some (.slice a n c)) {l : Operand} (hl : ev env l = some (.int .i64 (.ofNat lo))) (hT : T.tab xt = some ti) (hd : ti.desc = .slice e) (hE : T.tab e = some ei) (hz : ei.size = z) (h1 : lo ≤ n) :
  QP P env (.slice xt x (some l) none none) t (.slice (slide a c lo z) (n - lo) (c - lo)) :=
 .mk fun ρ h w d pos aft => by
  have hu := r_under (P := P) w hT
  rw [hd] at hu
  have hs := r_size (P := P) w hE
  simp [execOp, h x _ hx, h l _ hl, Instr.sliceAt, Instr.slice, hu, Instr.sliceBounds, Instr.sliceBound, asIntOf, h1, hs, hz, slide]
theorem rds_cell {S : List Asn} {F : List Asn} {G : Ghost} {w : World} (k : sat G w (S ++ F)) (hr : Rds S (some ⟨b, off, none⟩) m z els) {j f : Nat} {r : List Value} (hj : els[j]? = some r) (hf : r[f]? = some v) : w.cell? ⟨b, off + (j * z + f), none⟩ = some v := by
 obtain ⟨h1, h2, h3⟩ := hr _ (k.ent (Ent.left S F)).heap
 have hlt := (List.getElem?_eq_some_iff.1 hj).1
 rcases h3 with h3 | ⟨b', off', cs, e', f', ha, hb, hg⟩
 ·omega
 ·cases ha
  have := hg _ v (flatten_get (fun x hx => (h2 x hx).1) hj hf)
  unfold heapOf at hb
  simp [World.cell?, hb, this]
theorem q_loadRd {j f o : Nat} {r : List Value} (hr : Rds S (some ⟨b, off, none⟩) m z els) (hx : ev env x = some (.pointer (some ⟨b, o, none⟩))) (ho : o = off + (j * z + f)) (hT : T.tab xt = some ti) (ha : ti.agg = false) (hj : els[j]? = some r) (hf : nth r f = some v) : QS P N D env S (.load xt x) t v :=
 .mk fun G F a w k d pos aft => by
  rw [nth_get] at hf
  have hc := rds_cell k.sat hr hj hf
  rw [← ho] at hc
  have hg := r_agg (P := P) w hT
  rw [ha] at hg
  simp [execOp, k.env.eval hx, Instr.loadAt, Instr.sureAddr, loadVar, hg, hc]
theorem q_loadRdA {j o : Nat} {r : List Value} (hr : Rds S (some ⟨b, off, none⟩) m z els) (hx : ev env x = some (.pointer (some ⟨b, o, none⟩))) (ho : o = off + j * z) (hT : T.tab xt = some ti) (ha : ti.agg = true) (hz : ti.size = z) (hj : els[j]? = some r) : QS P N D env S (.load xt x) t (.agg r.toArray) :=
 .mk fun G F a w k d pos aft => by
  have hl : r.length = z := by
   obtain ⟨h1, h2, h3⟩ := hr _ (k.sat.ent (Ent.left S F)).heap
   exact (h2 r (List.mem_of_getElem? hj)).1
  have := run_loadCells_list (P := P) w ⟨b, o, none⟩ r (fun q u hq => by
   rw [Addr.add_lit]
   have := rds_cell k.sat hr hj hq
   rw [ho, Nat.add_assoc]; exact this)
  rw [hl] at this
  have hg := r_agg (P := P) w hT
  have hs := r_size (P := P) w hT
  rw [ha] at hg
  simp [execOp, k.env.eval hx, Instr.loadAt, Instr.sureAddr, loadVar, hg, hs, hz, this]
def seqS : Nat → List (Nat × Value) → Option (List (List Value))
 | _, [] => some []
 | k, (i, v) :: r => match Nat.beq i k with
  | false => none
  | true => match seqS (k + 1) r with
   | none => none
   | some l => some (cellsL v :: l)
theorem seqS_spec : ∀ {vs : List (Nat × Value)} {k : Nat} {l : List (List Value)}, seqS k vs = some l → l = vs.map (fun p => cellsL p.2) ∧ ∀ j p, vs[j]? = some p → p.1 = k + j := by
 intro vs
 induction vs with
 | nil => intro k l h; cases h; exact ⟨rfl, fun j p hp => by simp at hp⟩
 | cons q vs ih =>
  obtain ⟨i, v⟩ := q
  intro k l h
  unfold seqS at h
  cases hb : Nat.beq i k with
  | false => rw [hb] at h; cases h
  | true =>
   rw [hb] at h; simp only at h
   cases hr : seqS (k + 1) vs with
   | none => rw [hr] at h; cases h
   | some r =>
    rw [hr] at h; cases h
    obtain ⟨e1, e2⟩ := ih hr
    refine ⟨by rw [e1]; rfl, fun j p hp => ?_⟩
    cases j with
    | zero => simp at hp; subst hp; exact Nat.eq_of_beq_eq_true hb
    | succ j => rw [e2 j p (by simpa using hp)]; omega
def elsOk (z : Nat) : List (List Value) → Bool
 | [] => true
 | x :: r => match Nat.beq x.length z with
  | false => false
  | true => match cellV x with
   | false => false
   | true => elsOk z r
theorem elsOk_spec {z : Nat} : ∀ {l : List (List Value)}, elsOk z l = true → ∀ x ∈ l, x.length = z ∧ ∀ v ∈ x, v.oneCell' = true := by
 intro l
 induction l with
 | nil => intro _ x h; cases h
 | cons a l ih =>
  intro h x hx
  unfold elsOk at h
  cases h1 : Nat.beq a.length z with
  | false => rw [h1] at h; cases h
  | true =>
   rw [h1] at h; simp only at h
   cases h2 : cellV a with
   | false => rw [h2] at h; cases h
   | true =>
    rw [h2] at h
    rcases List.mem_cons.1 hx with rfl | hx
    ·exact ⟨Nat.eq_of_beq_eq_true h1, cellV_spec h2⟩
    ·exact ih h x hx
theorem fill_seq (z : Nat) : ∀ (vs : List (Nat × Value)) (k : Nat) (done cells : List Value), (∀ j p, vs[j]? = some p → p.1 = k + j) → (∀ p ∈ vs, (cellsL p.2).length = z) → done.length = k * z → cells.length = vs.length * z →
  Instr.fill (fun i => some (i * z, z)) (done ++ cells).toArray vs = some (done ++ (vs.map (fun p => cellsL p.2)).flatten).toArray := by
 intro vs
 induction vs with
 | nil => intro k done cells _ _ _ h; simp at h; subst h; simp [Instr.fill]
 | cons p vs ih =>
  obtain ⟨i, v⟩ := p
  intro k done cells hk hz hd hc
  have hi : i = k := by simpa using hk 0 (i, v) rfl
  subst hi
  have hv : (cellsL v).length = z := hz (i, v) (List.mem_cons_self ..)
  have hvs : v.cells.size = z := by rw [cells_toArray]; simpa using hv
  simp only [List.length_cons, Nat.add_mul, Nat.one_mul] at hc
  unfold Instr.fill
  simp only [Bool.or_eq_true, decide_eq_true_eq]
  rw [if_neg (by rw [hvs]; simp; omega)]
  have hf := foldl_set (i * z) (cellsL v) 0 (done ++ cells) (by simp only [List.length_append]; omega)
  simp only [Nat.add_zero] at hf
  rw [show v.cells.zipIdx.foldl (fun cs (c, j) => cs.setIfInBounds (i * z + j) c) (done ++ cells).toArray = ((done ++ cellsL v) ++ cells.drop z).toArray from by
   rw [cells_toArray]
   have h2 : (done ++ cells).take (i * z) ++ cellsL v ++ (done ++ cells).drop (i * z + (cellsL v).length) = (done ++ cellsL v) ++ cells.drop z := by
    rw [← hd, hv, List.take_left', List.drop_append]
    ·simp [List.drop_eq_nil_of_le]
    ·rfl
   rw [← h2, ← hf, ← Array.foldl_toList]
   simp]
  have := ih (i + 1) (done ++ cellsL v) (cells.drop z) (fun j p hp => by have := hk (j + 1) p (by simpa using hp); omega) (fun p hp => hz p (List.mem_cons_of_mem _ hp)) (by simp only [List.length_append, Nat.add_mul]; omega) (by simp only [List.length_drop]; omega)
  rw [this]
  simp
theorem o_buildSlice {ps : List (Nat × Operand)} {vs : List (Nat × Value)} (hp : evParts env ps = some vs) (hs : seqS 0 vs = some els) (hT : T.tab xt = some ti) (hd : ti.desc = .slice e) (hE : T.tab e = some ei) (hz : ei.size = z) (ho : elsOk z els = true) (hl : els.length = n) (hzl : ei.zero.length = z) (hn : Nat.ble (n * z) 16777216 = true) (hz0 : Nat.beq z 0 = false) (hN : ok N d)
  (next : ∀ b, TripL P N ops rest D ((d, .slice (some ⟨b, 0, none⟩) n n) :: env) (own (some ⟨b, 0, none⟩) n n e z els :: S) Q) : TripL P N ops (⟨some d, .buildSlice xt n ps.toArray, t, pos, aft, none⟩ :: rest) D env S Q :=
 l_op_ex (α := Nat) (p := fun _ => True) (v := fun b => .slice (some ⟨b, 0, none⟩) n n) (S' := fun b => own (some ⟨b, 0, none⟩) n n e z els :: S) hN (fun G F a w k => by
  have hu := r_under (P := P) w hT
  rw [hd] at hu
  have hsz := r_size (P := P) w hE
  obtain ⟨zv, hz1, hz2⟩ := r_zero (P := P) w hE
  obtain ⟨e1, e2⟩ := seqS_spec hs
  have hok := elsOk_spec ho
  have hlen : els.flatten.length = n * z := by rw [flatten_len (fun x hx => (hok x hx).1), hl]
  have hbound := Nat.le_of_ble_eq_true hn
  have hvl : vs.length = n := by rw [← hl, e1]; simp
  have hfill : ∀ cells : List Value, cells.length = n * z → Instr.fill (fun i => some (i * z, z)) cells.toArray vs = some els.flatten.toArray := fun cells hc => by
   have := fill_seq z vs 0 [] cells (fun j p hj => e2 j p hj) (fun p hp => (hok _ (by rw [e1]; exact List.mem_map_of_mem hp)).1) (by simp) (by rw [hvl]; exact hc)
   simp only [List.nil_append] at this
   rw [this, e1]
  refine ⟨w.heap.size, trivial, { w with heap := w.heap.push (.cells els.flatten.toArray e) }, ?_, ?_⟩
  ·have hm : (ps.toArray.map fun (i, x) => (i, a.eval x)).toList = vs := by
    simp only [List.map_toArray]
    exact evParts_map (fun x u h => k.env.eval h) hp
   have hnb : ¬ (n * ei.size > 2 ^ 24) := by rw [hz]; omega
   simp only [execOp, Instr.buildSlice, Sem.run_bind, hu, Result.andThen_ok, hsz, hnb, if_false, hm]
   by_cases h0 : n * ei.size = 0
   ·have h0' : n * z = 0 := by rw [← hz]; exact h0
    rw [if_pos h0]
    simp only [Sem.run_bind, Sem.run_pure, Result.andThen_ok, h0]
    have hf2 := hfill [] (by rw [h0']; rfl)
    rw [hz]
    have hr0 : ((Array.range 0).map (fun q => (#[] : Array Value)[q % (#[] : Array Value).size]!)) = ([] : List Value).toArray := by simp
    rw [hr0, hf2]
    rfl
   ·rw [if_neg h0]
    simp only [Sem.run_bind, hz1, Sem.run_pure, Result.andThen_ok]
    have hf2 := hfill ((Array.range (n * ei.size)).map (zv.cells[· % zv.cells.size]!)).toList (by simp [hz])
    rw [Array.toArray_toList] at hf2
    rw [hz] at hf2 ⊢
    rw [hf2]
    rfl
  ·refine (sat.new (w' := { w with heap := w.heap.push (.cells els.flatten.toArray e) }) (o := .cells els.flatten.toArray e) k.sat rfl rfl rfl rfl).ent (Ent.frame ?_ F)
   refine fun h hs => ?_
   obtain ⟨h1, h2, dd, s1, s2, hb, r⟩ := hs
   exact ⟨h1, h2, dd, s1, s2, ⟨hl, hok, Nat.le_refl _, by
    have hz1 : z ≠ 0 := by rintro rfl; cases hz0
    have : n ≤ n * z := Nat.le_mul_of_pos_right n (by omega)
    omega, .inr ⟨_, [], rfl, by simp [hlen], by simpa [pt] using hb⟩⟩, r⟩) (fun b _ => next b)
end ops
end Go.Ox
end
