/- WholeKept, part 8. No condition. -/
import Derived.MapKept
import Derived.Laws.IdiomRangeMap
import Derived.Test.YtonpakokjgloaaaGreatOx07
set_option linter.all false
section
namespace Go.Ox
open Go Go.MapKept
def mapAt (b : Nat) (d : TypeDesc) (m : List (Value × Value)) : Asn := fun h =>
 ∃ es clock, h b = some (.map es clock) ∧ Stamped es clock ∧ es.toList.map (fun e => (e.key, e.val)) = m ∧ ∀ p ∈ m, IsKey d p.1
def rangeAt (it b : Nat) (d : TypeDesc) (m left : List (Value × Value)) (cur : Option (Value × Value)) : Asn := fun h =>
 ∃ es clock seen, h b = some (.map es clock) ∧ Stamped es clock ∧ es.toList.map (fun e => (e.key, e.val)) = m ∧ (∀ p ∈ m, IsKey d p.1) ∧
  h it = some (.mapIter (some b) clock seen clock) ∧ ((es.toList.filter fun e => !seen.contains e.born).map fun e => (e.key, e.val)) = left ∧
  (match cur with | none => True | some p => ∃ e ∈ es.toList, seen.back? = some e.born ∧ (e.key, e.val) = p)
section sats
variable {G : Ghost} {w : World} {R : List Asn} {b : Nat} {d : TypeDesc} {m : List (Value × Value)}
theorem map_open (k : sat G w (mapAt b d m :: R)) : ∃ es clock, Stamped es clock ∧ es.toList.map (fun e => (e.key, e.val)) = m ∧ (∀ p ∈ m, IsKey d p.1) ∧ sat G w (pt b (.map es clock) :: R) := by
 obtain ⟨h1, h2, dd, s1, s2, ⟨es, clock, a1, a2, a3, a4⟩, r⟩ := k.heap
 exact ⟨es, clock, a2, a3, a4, k.os, k.tape, k.output, k.size, h1, h2, dd, s1, s2, a1, r⟩
theorem map_fold {es : Array MapEntry} {clock : Nat} (hs : Stamped es clock) (hm : es.toList.map (fun e => (e.key, e.val)) = m) (hk : ∀ p ∈ m, IsKey d p.1) (k : sat G w (pt b (.map es clock) :: R)) : sat G w (mapAt b d m :: R) := by
 obtain ⟨h1, h2, dd, s1, s2, a, r⟩ := k.heap
 exact ⟨k.os, k.tape, k.output, k.size, h1, h2, dd, s1, s2, ⟨es, clock, a, hs, hm, hk⟩, r⟩
end sats
theorem isKey_entries {es : Array MapEntry} {d : TypeDesc} {m : List (Value × Value)} (hm : es.toList.map (fun e => (e.key, e.val)) = m) (hk : ∀ p ∈ m, IsKey d p.1) : ∀ x ∈ es.toList, IsKey d x.key := fun x hx => hk (x.key, x.val) (by rw [← hm]; exact List.mem_map_of_mem hx)
theorem find_hit {es : Array MapEntry} {d : TypeDesc} {m1 m2 : List (Value × Value)} {key val : Value} (hkey : IsKey d key) (hm : es.toList.map (fun e => (e.key, e.val)) = m1 ++ (key, val) :: m2) (hk : ∀ p ∈ m1 ++ (key, val) :: m2, IsKey d p.1) {clock : Nat} (hs : Stamped es clock) :
  ∃ e, Instr.findNow d key es.toList 0 = some (some (m1.length, e.val)) ∧ es.toList[m1.length]? = some e ∧ e.key = key ∧ e.val = val := by
 have hg : (es.toList.map (fun e => (e.key, e.val)))[m1.length]? = some (key, val) := by rw [hm]; simp
 rw [List.getElem?_map] at hg
 cases he : es.toList[m1.length]? with
 | none => rw [he] at hg; cases hg
 | some e =>
  rw [he] at hg
  simp only [Option.map_some, Option.some.injEq, Prod.mk.injEq] at hg
  obtain ⟨e1, e2⟩ := hg
  rcases findNow_spec hkey es.toList 0 (isKey_entries hm hk) with ⟨_, hno⟩ | ⟨j, e', h1, h2, h3⟩
  ·exact absurd e1 (hno e (List.mem_of_getElem? he))
  ·have hnd : (es.toList.map (·.key)).Nodup := hs.2.2
   have hj : j = m1.length := by
    have a1 : (es.toList.map (·.key))[j]? = some key := by rw [List.getElem?_map, h2]; simp [h3]
    have a2 : (es.toList.map (·.key))[m1.length]? = some key := by rw [List.getElem?_map, he]; simp [e1]
    have l1 := (List.getElem?_eq_some_iff.1 a1).1
    exact (List.getElem?_inj l1 hnd).1 (a1.trans a2.symm)
   subst hj
   rw [he] at h2; cases h2
   rw [Nat.zero_add] at h1
   exact ⟨e, h1, rfl, e1, e2⟩
theorem find_miss {es : Array MapEntry} {d : TypeDesc} {m : List (Value × Value)} {key : Value} (hkey : IsKey d key) (hm : es.toList.map (fun e => (e.key, e.val)) = m) (hk : ∀ p ∈ m, IsKey d p.1) (hno : ∀ p ∈ m, p.1 ≠ key) :
  Instr.findNow d key es.toList 0 = some none ∧ ∀ x ∈ es.toList, x.key ≠ key := by
 have hx : ∀ x ∈ es.toList, x.key ≠ key := fun x hx => hno (x.key, x.val) (by rw [← hm]; exact List.mem_map_of_mem hx)
 rcases findNow_spec hkey es.toList 0 (isKey_entries hm hk) with ⟨h, _⟩ | ⟨j, e, h1, h2, h3⟩
 ·exact ⟨h, hx⟩
 ·exact absurd h3 (hx e (List.mem_of_getElem? h2))
section ops
variable {P : Program} {N : Nat} {D : List Deferred} {env : KEnv} {S : List Asn} {Q : Post} {ops rest : List Oper}
variable {d : Tmp} {t : TypeId} {pos : String} {aft : Array Edge}
variable {x y z : Operand} {v old key : Value} {xt kt et : TypeId} {b i : Nat} {kd : TypeDesc} {m m1 m2 : List (Value × Value)}
variable [T : Tab P] {ti ki ei : TInf}
theorem q_lookup (i : Nat) {ok : Bool} (hx : ev env x = some (.map (some b))) (hy : ev env y = some key) (hi : at? S i = some (mapAt b kd m)) (hT : T.tab xt = some ti) (hd : ti.desc = .map kt et) (hK : T.tab kt = some ki) (hkd : ki.desc = kd) (hkey : IsKey kd key)
  (hm : m = m1 ++ (key, v) :: m2) : QS P N D env S (.lookup xt x y ok) t (bif ok then .tuple #[v, .bool true] else v) :=
 .mk fun G F a w k d pos aft => by
  subst hm
  obtain ⟨es, clock, hs, hm, hk, ks⟩ := map_open (sat_del hi k.sat)
  have hb : w.heap[b]? = some (.map es clock) := sat.get (S := [pt b _]) (F := del S i ++ F) (n := 0) ks rfl
  obtain ⟨e, f1, _, _, f4⟩ := find_hit hkey hm hk hs
  have hu := T.under xt ti hT
  have hku := T.under kt ki hK
  rw [hd] at hu; rw [hkd] at hku
  have hc := run_checkKey (P := P) (w := w) hku hkey es.isEmpty 9999
  cases ok <;> simp [execOp, k.env.eval hx, k.env.eval hy, Instr.lookup, run_underlying hu, MapKept.run_getObj_map hb, hc, run_findKey hku f1, f4]
theorem q_lookup_no (i : Nat) {ok : Bool} (hx : ev env x = some (.map (some b))) (hy : ev env y = some key) (hi : at? S i = some (mapAt b kd m)) (hT : T.tab xt = some ti) (hd : ti.desc = .map kt et) (hK : T.tab kt = some ki) (hkd : ki.desc = kd) (hE : T.tab et = some ei) (hkey : IsKey kd key)
  (hm : ∀ p ∈ m, p.1 ≠ key) : QS P N D env S (.lookup xt x y ok) t (bif ok then .tuple #[ei.zv, .bool false] else ei.zv) :=
 .mk fun G F a w k d pos aft => by
  obtain ⟨es, clock, hs, hm', hk, ks⟩ := map_open (sat_del hi k.sat)
  have hb : w.heap[b]? = some (.map es clock) := sat.get (S := [pt b _]) (F := del S i ++ F) (n := 0) ks rfl
  obtain ⟨f1, _⟩ := find_miss hkey hm' hk hm
  have hu := T.under xt ti hT
  have hku := T.under kt ki hK
  rw [hd] at hu; rw [hkd] at hku
  have hc := run_checkKey (P := P) (w := w) hku hkey es.isEmpty 9999
  have hz := r_zv (P := P) w hE
  cases ok <;> simp [execOp, k.env.eval hx, k.env.eval hy, Instr.lookup, run_underlying hu, MapKept.run_getObj_map hb, hc, run_findKey hku f1, hz]
theorem q_lenMap (i : Nat) (hx : ev env x = some (.map (some b))) (hi : at? S i = some (mapAt b kd m)) (hT : T.tab xt = some ti) (hd : ti.desc = .map kt et) : QS P N D env S (.call ⟨.builtin .len, #[x], #[xt]⟩) t (.int .i64 m.length) :=
 .mk fun G F a w k d pos aft => by
  obtain ⟨es, clock, hs, hm, hk, ks⟩ := map_open (sat_del hi k.sat)
  have hb : w.heap[b]? = some (.map es clock) := sat.get (S := [pt b _]) (F := del S i ++ F) (n := 0) ks rfl
  have hu := T.under xt ti hT
  rw [hd] at hu
  have hl : es.size = m.length := by rw [← hm]; simp
  simp [execOp, resolve, invoke, builtin, k.env.eval hx, Builtin.len_, run_underlying hu, MapKept.run_getObj_map hb, goInt, hl]
theorem sat_setMap {G : Ghost} {w : World} {S F : List Asn} {i : Nat} {es es' : Array MapEntry} {clock clock' : Nat} {m' : List (Value × Value)} (hi : at? S i = some (mapAt b kd m)) (ks : sat G w (pt b (.map es clock) :: (del S i ++ F)))
  (hs : Stamped es' clock') (hm : es'.toList.map (fun e => (e.key, e.val)) = m') (hk : ∀ p ∈ m', IsKey kd p.1) : sat G { w with heap := w.heap.setIfInBounds b (.map es' clock') } (put S i (mapAt b kd m') ++ F) := by
 have := sat.put (S := [pt b _]) (F := del S i ++ F) (n := 0) (o' := .map es' clock') (w' := { w with heap := w.heap.setIfInBounds b (.map es' clock') }) ks rfl rfl rfl rfl rfl
 exact sat_back hi (map_fold hs hm hk this)
theorem o_mapSet (i : Nat) (hx : ev env x = some (.map (some b))) (hy : ev env y = some key) (hz : ev env z = some v) (hi : at? S i = some (mapAt b kd m)) (hT : T.tab xt = some ti) (hd : ti.desc = .map kt et) (hK : T.tab kt = some ki) (hkd : ki.desc = kd) (hkey : IsKey kd key)
  (hm : m = m1 ++ (key, old) :: m2) (next : TripL P N ops rest D env (put S i (mapAt b kd (m1 ++ (key, v) :: m2))) Q) : TripL P N ops (⟨none, .mapUpdate xt x y z, t, pos, aft, none⟩ :: rest) D env S Q :=
 l_act (fun G F a w k => by
  subst hm
  obtain ⟨es, clock, hs, hm, hk, ks⟩ := map_open (sat_del hi k.sat)
  have hb : w.heap[b]? = some (.map es clock) := sat.get (S := [pt b _]) (F := del S i ++ F) (n := 0) ks rfl
  obtain ⟨e, f1, f2, f3, f4⟩ := find_hit hkey hm hk hs
  have hu := T.under xt ti hT
  have hku := T.under kt ki hK
  rw [hd] at hu; rw [hkd] at hku
  have hc := run_checkKey (P := P) (w := w) hku hkey false 9999
  have f2' : es[m1.length]? = some e := by simpa using f2
  refine ⟨_, by
   simp [execOp, k.env.eval hx, k.env.eval hy, k.env.eval hz, Instr.mapUpdate, run_underlying hu, MapKept.run_getObj_map hb, hc, run_findKey hku f1, f2', f3, run_keyThatStays hkey, MapKept.run_setObj_map _ hb]
   rfl, sat_setMap hi ks ?_ ?_ ?_⟩
  ·exact stamped_modify hs _ _ (fun _ _ => rfl) (fun e' _ he => by rw [f2'] at he; cases he; exact f3.symm)
  ·apply List.ext_getElem?
   intro j
   have hmj := congrArg (fun l => l[j]?) hm
   simp only [List.getElem?_map, Array.getElem?_toList, Array.getElem?_modify] at hmj ⊢
   by_cases hj : m1.length = j
   ·subst hj
    simp [f2']
   ·rw [if_neg hj, hmj]
    rcases Nat.lt_or_ge j m1.length with h | h
    ·rw [List.getElem?_append_left h, List.getElem?_append_left h]
    ·rw [List.getElem?_append_right h, List.getElem?_append_right h]
     obtain ⟨q, hq⟩ : ∃ q, j - m1.length = q + 1 := ⟨j - m1.length - 1, by omega⟩
     rw [hq]; rfl
  ·intro p hp
   rcases List.mem_append.1 hp with h | h
   ·exact hk p (List.mem_append_left _ h)
   ·rcases List.mem_cons.1 h with h | h
    ·rw [h]; exact hkey
    ·exact hk p (List.mem_append_right _ (List.mem_cons_of_mem _ h))) next
theorem o_mapAdd (i : Nat) (hx : ev env x = some (.map (some b))) (hy : ev env y = some key) (hz : ev env z = some v) (hi : at? S i = some (mapAt b kd m)) (hT : T.tab xt = some ti) (hd : ti.desc = .map kt et) (hK : T.tab kt = some ki) (hkd : ki.desc = kd) (hkey : IsKey kd key)
  (hm : ∀ p ∈ m, p.1 ≠ key) (next : TripL P N ops rest D env (put S i (mapAt b kd (m ++ [(key, v)]))) Q) : TripL P N ops (⟨none, .mapUpdate xt x y z, t, pos, aft, none⟩ :: rest) D env S Q :=
 l_act (fun G F a w k => by
  obtain ⟨es, clock, hs, hm', hk, ks⟩ := map_open (sat_del hi k.sat)
  have hb : w.heap[b]? = some (.map es clock) := sat.get (S := [pt b _]) (F := del S i ++ F) (n := 0) ks rfl
  obtain ⟨f1, f2⟩ := find_miss hkey hm' hk hm
  have hu := T.under xt ti hT
  have hku := T.under kt ki hK
  rw [hd] at hu; rw [hkd] at hku
  have hc := run_checkKey (P := P) (w := w) hku hkey false 9999
  refine ⟨_, by
   simp [execOp, k.env.eval hx, k.env.eval hy, k.env.eval hz, Instr.mapUpdate, run_underlying hu, MapKept.run_getObj_map hb, hc, run_findKey hku f1, MapKept.run_setObj_map _ hb]
   rfl, sat_setMap hi ks (stamped_push hs f2) (by simp [hm']) ?_⟩
  intro p hp
  rcases List.mem_append.1 hp with h | h
  ·exact hk p h
  ·rw [List.mem_singleton.1 h]; exact hkey) next
theorem o_makeMap (hT : T.tab xt = some ti) (hd : ti.desc = .map kt et) (hK : T.tab kt = some ki) (hkd : ki.desc = kd) (hN : ok N d)
  (next : ∀ b, TripL P N ops rest D ((d, .map (some b)) :: env) (mapAt b kd [] :: S) Q) : TripL P N ops (⟨some d, .makeMap xt none, t, pos, aft, none⟩ :: rest) D env S Q :=
 l_op_ex (α := Nat) (p := fun _ => True) (v := fun b => .map (some b)) (S' := fun b => mapAt b kd [] :: S) hN (fun G F a w k => by
  refine ⟨w.heap.size, trivial, { w with heap := w.heap.push (.map #[] 0) }, by simp [execOp, Instr.makeMap], ?_⟩
  exact map_fold (stamped_empty 0) rfl (fun p hp => by cases hp) (sat.new (w' := { w with heap := w.heap.push (.map #[] 0) }) k.sat rfl rfl rfl rfl)) (fun b _ => next b)
theorem range_open {G : Ghost} {w : World} {R : List Asn} {it b : Nat} {d : TypeDesc} {m left : List (Value × Value)} {cur : Option (Value × Value)} (k : sat G w (rangeAt it b d m left cur :: R)) :
  ∃ es clock seen, Stamped es clock ∧ es.toList.map (fun e => (e.key, e.val)) = m ∧ (∀ p ∈ m, IsKey d p.1) ∧ ((es.toList.filter fun e => !seen.contains e.born).map fun e => (e.key, e.val)) = left ∧
   (match cur with | none => True | some p => ∃ e ∈ es.toList, seen.back? = some e.born ∧ (e.key, e.val) = p) ∧ sat G w (pt it (.mapIter (some b) clock seen clock) :: pt b (.map es clock) :: R) := by
 obtain ⟨h1, h2, dd, s1, s2, ⟨es, clock, seen, a1, a2, a3, a4, a5, a6, a7⟩, r⟩ := k.heap
 refine ⟨es, clock, seen, a2, a3, a4, a6, a7, k.os, k.tape, k.output, k.size, ?_⟩
 have hne : it ≠ b := fun e => by rw [e, a1] at a5; cases a5
 refine ⟨fun x => if x = it then h1 x else none, un (fun x => if x = b then h1 x else none) h2, ?_, ?_, ?_, by simp [pt, a5], (fun x => if x = b then h1 x else none), h2, ?_, sub_un_left _ _, sub_un_right ?_, by simp [pt, a1], r⟩
 ·intro x
  by_cases hx : x = it
  ·right
   simp only [un, hx, hne, if_false]
   exact (dd it).resolve_left (by rw [a5]; simp)
  ·left; simp [hx]
 ·intro x o e; by_cases hx : x = it
  ·simp only [hx, if_true] at e; rw [hx]; exact s1 it o e
  ·simp [hx] at e
 ·refine un_sub (fun x o e => ?_) s2
  by_cases hx : x = b
  ·simp only [hx, if_true] at e; rw [hx]; exact s1 b o e
  ·simp [hx] at e
 ·intro x; by_cases hx : x = b
  ·right; rw [hx]; exact (dd b).resolve_left (by rw [a1]; simp)
  ·left; simp [hx]
 ·intro x; by_cases hx : x = b
  ·right; rw [hx]; exact (dd b).resolve_left (by rw [a1]; simp)
  ·left; simp [hx]
theorem range_fold {G : Ghost} {w : World} {R : List Asn} {it b clock : Nat} {d : TypeDesc} {m left : List (Value × Value)} {cur : Option (Value × Value)} {es : Array MapEntry} {seen : Array Nat} (hs : Stamped es clock) (hm : es.toList.map (fun e => (e.key, e.val)) = m) (hk : ∀ p ∈ m, IsKey d p.1)
  (hl : ((es.toList.filter fun e => !seen.contains e.born).map fun e => (e.key, e.val)) = left) (hc : match cur with | none => True | some p => ∃ e ∈ es.toList, seen.back? = some e.born ∧ (e.key, e.val) = p)
  (k : sat G w (pt it (.mapIter (some b) clock seen clock) :: pt b (.map es clock) :: R)) : sat G w (rangeAt it b d m left cur :: R) := by
 obtain ⟨h1, h2, dd, s1, s2, a, g1, g2, dd', t1, t2, a', r⟩ := k.heap
 refine ⟨k.os, k.tape, k.output, k.size, un h1 g1, g2, dj_un (dd.mono (sub.refl _) t2) dd', un_sub s1 (t1.trans s2), t2.trans s2, ⟨es, clock, seen, ?_, hs, hm, hk, sub_un_left _ _ _ _ a, hl, hc⟩, r⟩
 exact sub_un_right (dd.mono (sub.refl _) t1) _ _ a'
theorem o_range (i : Nat) (hx : ev env x = some (.map (some b))) (hi : at? S i = some (mapAt b kd m)) (hT : T.tab xt = some ti) (hd : ti.desc = .map kt et) (hN : ok N d)
  (next : ∀ it, TripL P N ops rest D ((d, .pointer (some ⟨it, 0, none⟩)) :: env) (put S i (rangeAt it b kd m m none)) Q) : TripL P N ops (⟨some d, .range xt x, t, pos, aft, none⟩ :: rest) D env S Q :=
 l_op_ex (α := Nat) (p := fun _ => True) (v := fun it => .pointer (some ⟨it, 0, none⟩)) (S' := fun it => put S i (rangeAt it b kd m m none)) hN (fun G F a w k => by
  obtain ⟨es, clock, hs, hm, hk, ks⟩ := map_open (sat_del hi k.sat)
  have hb : w.heap[b]? = some (.map es clock) := sat.get (S := [pt b _]) (F := del S i ++ F) (n := 0) ks rfl
  have hu := T.under xt ti hT
  rw [hd] at hu
  refine ⟨w.heap.size, trivial, { w with heap := w.heap.push (.mapIter (some b) clock #[] clock) }, by
   simp [execOp, k.env.eval hx, Instr.range, run_underlying hu, MapKept.run_getObj_map hb], sat_back hi (range_fold (seen := #[]) hs hm hk (by rw [show (es.toList.filter fun e => !(#[] : Array Nat).contains e.born) = es.toList from List.filter_eq_self.2 (fun x _ => by simp)]; exact hm) trivial ?_)⟩
  exact sat.new (S := []) (F := pt b _ :: (del S i ++ F)) (w' := { w with heap := w.heap.push (.mapIter (some b) clock #[] clock) }) ks rfl rfl rfl rfl) (fun it _ => next it)
theorem cpush (seen : Array Nat) (c x : Nat) : (!(seen.push c).contains x) = (!(x == c) && !seen.contains x) := by
 rw [Bool.eq_iff_iff]
 simp
 constructor
 ·rintro ⟨h1, h2⟩; exact ⟨h2, h1⟩
 ·rintro ⟨h1, h2⟩; exact ⟨h2, h1⟩
theorem filter_ne_erase : ∀ (l : List MapEntry) (j : Nat) (e : MapEntry), l[j]? = some e → (l.map (·.born)).Nodup → l.filter (fun x => !(x.born == e.born)) = l.eraseIdx j := by
 intro l
 induction l with
 | nil => intro j e h; simp at h
 | cons a l ih =>
  intro j e h hn
  rw [List.map_cons, List.nodup_cons] at hn
  cases j with
  | zero =>
   simp at h; subst h
   have : l.filter (fun x => !(x.born == a.born)) = l := List.filter_eq_self.2 (fun x hx => by
    have : x.born ≠ a.born := fun q => hn.1 (by rw [← q]; exact List.mem_map_of_mem hx)
    simp [this])
   simp [this]
  | succ j =>
   have hj : l[j]? = some e := by simpa using h
   have : a.born ≠ e.born := fun q => hn.1 (by rw [q]; exact List.mem_map_of_mem (List.mem_of_getElem? hj))
   simp [this, ih j e hj hn.2]
theorem split_map {α : Type} : ∀ {l : List α} {j : Nat} {e : α}, l[j]? = some e → l = l.take j ++ e :: l.drop (j + 1) := by
 intro l j e h
 have hlt := (List.getElem?_eq_some_iff.1 h).1
 have he := (List.getElem?_eq_some_iff.1 h).2
 rw [← he]; simp
omit T in
theorem o_next {it : Nat} {left : List (Value × Value)} {cur : Option (Value × Value)} (i : Nat) (hx : ev env x = some (.pointer (some ⟨it, 0, none⟩))) (hi : at? S i = some (rangeAt it b kd m left cur)) (hN : ok N d)
  (hend : left = [] → TripL P N ops rest D ((d, .tuple #[.bool false]) :: env) (put S i (mapAt b kd m)) Q)
  (hstep : ∀ l1 p l2, left = l1 ++ p :: l2 → p ∈ m → TripL P N ops rest D ((d, .tuple #[.bool true, p.1, p.2]) :: env) (put S i (rangeAt it b kd m (l1 ++ l2) (some p))) Q) : TripL P N ops (⟨some d, .next x false, t, pos, aft, none⟩ :: rest) D env S Q :=
 ⟨fun G F a w k => wpList_plain rfl fun K hK => by
  obtain ⟨es, clock, seen, hs, hm, hk, hl, hc, ks⟩ := range_open (sat_del hi k.sat)
  have hit : w.heap[it]? = some (.mapIter (some b) clock seen clock) := sat.get (S := [pt it _, pt b _]) (F := del S i ++ F) (n := 0) ks rfl
  have hb : w.heap[b]? = some (.map es clock) := sat.get (S := [pt it _, pt b _]) (F := del S i ++ F) (n := 1) ks rfl
  have hsz : d < a.tmps.size := ok_lt hN k.size
  have hg1 : (getObj it).run P w = .ok (.mapIter (some b) clock seen clock) w := by simp [getObj, Sem.run, hit]
  have hg2 : (getObj b).run P w = .ok (.map es clock) w := MapKept.run_getObj_map hb
  have hold : ∀ x ∈ es.toList, x.born < clock := hs.1
  have hmem : ∀ x ∈ (es.filter (fun e => !seen.contains e.born)).toList, x.born < clock := fun x hx => hold x (by simp at hx ⊢; exact hx.1)
  have hLl : (es.filter (fun e => !seen.contains e.born)).toList = es.toList.filter (fun e => !seen.contains e.born) := by simp
  have hrun : ∀ o' : Obj, (setObj it o').run P w = .ok () { w with heap := w.heap.setIfInBounds it o' } := fun o' => by simp [setObj, Sem.run, hit]
  have hrun2 : ∀ o' : Obj, (setObj it o').run P w.drew = .ok () { w.drew with heap := w.heap.setIfInBounds it o' } := fun o' => by
   have : w.drew.heap[it]? = some (.mapIter (some b) clock seen clock) := hit
   simp only [setObj, Sem.run, this]; rfl
  have hexec : ∀ (r : Result Value), (Instr.next (.pointer (some ⟨it, 0, none⟩)) false t).run P w = r → (execOp a.eval ⟨some d, .next x false, t, pos, aft, none⟩).run P w = r.andThen fun u w' => .ok (.value u) w' := fun r hr => by
   rw [← hr]; simp [execOp, k.env.eval hx]
  have hnext : (Instr.next (.pointer (some ⟨it, 0, none⟩)) false t).run P w = (if es.filter (fun e => !seen.contains e.born) = #[] then .ok (.tuple #[.bool false]) w else
    ((choose (Question.mapNext (es.filter (fun e => !seen.contains e.born)).size)).run P w).andThen fun j w1 => match (es.filter (fun e => !seen.contains e.born))[j]? with
     | some e => ((setObj it (.mapIter (some b) clock (seen.push e.born) clock)).run P w1).andThen fun _ w2 => .ok (.tuple #[.bool true, e.key, e.val]) w2
     | none => .halt (.stuck "Next: no such candidate") w1) := by
   simp only [Instr.next, Sem.run_bind, hg1, hg2, Result.andThen_ok, next_test_false seen es clock clock hold (Nat.le_refl _), Bool.false_eq_true, if_false]
   generalize es.filter (fun e => !seen.contains e.born) = L at hmem
   have e1 : L.filter (fun x => decide (x.born < clock)) = L := Array.filter_eq_self.2 (fun x hx => by simpa using hmem x (by simpa using hx))
   have e2 : L.filter (fun x => decide (x.born ≥ clock)) = #[] := by
    rw [Array.filter_eq_empty_iff]
    intro x hx
    have := hmem x (by simpa using hx)
    simp
    omega
   simp only [e1, e2, Array.append_empty]
   by_cases h0 : L = #[]
   ·subst h0
    simp [choose, Sem.run, Question.forced]
   ·have hne : L.isEmpty = false := by
     cases hq : L.isEmpty with
     | false => rfl
     | true => exact absurd (Array.isEmpty_iff.1 hq) h0
    simp only [hne, Bool.false_eq_true, if_false, Array.empty_append, Array.size_map, h0]
    congr 1
    funext j w1
    simp only [Array.getElem?_map]
    cases L[j]? with
    | none => rfl
    | some e => simp
  generalize hL : es.filter (fun e => !seen.contains e.born) = L at hnext hLl hmem
  have hleft : left = L.toList.map (fun e => (e.key, e.val)) := by rw [← hl, hLl]
  by_cases h0 : L = #[]
  ·rw [if_pos h0] at hnext
   have := hexec _ hnext
   unfold Oper.wp; rw [this]
   refine hK _ _ ((hend (by rw [hleft, h0]; rfl)).run G F _ _ ⟨?_, k.env.put hsz, k.defers, sat_back hi (map_fold hs hm hk (ks.ent (Ent.drop _ _)))⟩)
   rw [put_size]; exact k.size
  ·rw [if_neg h0] at hnext
   have hpos : 0 < L.size := by
    rcases Nat.eq_zero_or_pos L.size with h | h
    ·exact absurd (Array.eq_empty_of_size_eq_zero h) h0
    ·exact h
   obtain ⟨j, w1, hj, hw1, hch⟩ : ∃ (j : Nat) (w1 : World), j < L.size ∧ (w1 = w ∨ w1 = w.drew) ∧ (choose (Question.mapNext L.size)).run P w = .ok j w1 := by
    by_cases hf : L.size ≤ 1
    ·exact ⟨0, w, by omega, .inl rfl, by simp [choose, Sem.run, Question.forced, hf]⟩
    ·exact ⟨_, w.drew, Nat.mod_lt _ (by omega), .inr rfl, by
      simp only [choose, Sem.run, Question.forced, decide_eq_true_eq, hf, if_false, Question.cut]
      rfl⟩
   have hget : L.toList[j]? = some L[j] := by simp [hj]
   have heL : L[j] ∈ es.toList := by
    have := List.mem_of_getElem? hget
    rw [hLl] at this
    exact (List.mem_filter.1 this).1
   have hndL : (L.toList.map (·.born)).Nodup := by
    rw [hLl]
    exact (List.filter_sublist.map _).nodup hs.2.1
   have hset : ∀ o' : Obj, ∃ w2, (setObj it o').run P w1 = .ok () w2 ∧ w2.os = w.os ∧ w2.tape = w.tape ∧ w2.output = w.output ∧ w2.heap = w.heap.setIfInBounds it o' := fun o' => by
    rcases hw1 with rfl | rfl
    ·exact ⟨_, hrun o', rfl, rfl, rfl, rfl⟩
    ·exact ⟨_, hrun2 o', rfl, rfl, rfl, rfl⟩
   obtain ⟨w2, hs2, g1, g2, g3, g4⟩ := hset (.mapIter (some b) clock (seen.push L[j].born) clock)
   have hfin : (Instr.next (.pointer (some ⟨it, 0, none⟩)) false t).run P w = .ok (.tuple #[.bool true, L[j].key, L[j].val]) w2 := by
    rw [hnext, hch]
    simp only [Result.andThen_ok, Array.getElem?_eq_getElem hj, hs2]
   have := hexec _ hfin
   unfold Oper.wp; rw [this]
   have hsp := split_map hget
   have hpm : (L[j].key, L[j].val) ∈ m := by rw [← hm]; exact List.mem_map_of_mem heL
   refine hK _ _ ((hstep ((L.toList.take j).map (fun e => (e.key, e.val))) (L[j].key, L[j].val) ((L.toList.drop (j + 1)).map (fun e => (e.key, e.val))) (by rw [hleft]; exact (congrArg (List.map _) hsp).trans (by simp)) hpm).run G F _ _ ⟨?_, k.env.put hsz, k.defers, sat_back hi (range_fold (seen := seen.push L[j].born) hs hm hk ?_ ⟨L[j], heL, by simp, rfl⟩ ?_)⟩)
   ·rw [put_size]; exact k.size
   ·have h1 : (es.toList.filter fun e => !(seen.push L[j].born).contains e.born) = L.toList.filter (fun e => !(e.born == L[j].born)) := by
     rw [hLl, List.filter_filter]
     congr 1
     funext e
     exact cpush seen L[j].born e.born
    rw [h1, filter_ne_erase _ _ _ hget hndL, List.eraseIdx_eq_take_drop_succ]
    simp
   ·exact sat.put (S := [pt it _, pt b _]) (F := del S i ++ F) (n := 0) ks rfl g1 g2 g3 g4⟩
omit T in
theorem q_entry {it : Nat} {left : List (Value × Value)} {p : Value × Value} (i : Nat) (hx : ev env x = some (.pointer (some ⟨it, 0, none⟩))) (hi : at? S i = some (rangeAt it b kd m left (some p))) : QS P N D env S (.entry x) t (.tuple #[p.1, p.2]) :=
 .mk fun G F a w k d pos aft => by
  obtain ⟨es, clock, seen, hs, hm, hk, hl, ⟨e, he1, he2, he3⟩, ks⟩ := range_open (sat_del hi k.sat)
  have hit : w.heap[it]? = some (.mapIter (some b) clock seen clock) := sat.get (S := [pt it _, pt b _]) (F := del S i ++ F) (n := 0) ks rfl
  have hb : w.heap[b]? = some (.map es clock) := sat.get (S := [pt it _, pt b _]) (F := del S i ++ F) (n := 1) ks rfl
  have hg1 : (getObj it).run P w = .ok (.mapIter (some b) clock seen clock) w := by simp [getObj, Sem.run, hit]
  have hg2 : (getObj b).run P w = .ok (.map es clock) w := MapKept.run_getObj_map hb
  have hf : es.find? (·.born == e.born) = some e := by
   have := find_born e es.toList hs.2.1 he1
   rw [← Array.find?_toList]; exact this
  subst he3
  simp [execOp, k.env.eval hx, Instr.entry, hg1, hg2, he2, hf]
end ops
end Go.Ox
end
