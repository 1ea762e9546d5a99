/- WholeKept, part 0. No condition. -/
import Derived.Tactics
import Derived.Laws.AppendOwn
import Derived.Orders
import Derived.KernelRfl
set_option linter.all false
section
namespace Go.Ox
open Go
abbrev PHeap := Nat → Option Obj
abbrev Asn := PHeap → Prop
def sub (h h' : PHeap) : Prop := ∀ b o, h b = some o → h' b = some o
def dj (h1 h2 : PHeap) : Prop := ∀ b, h1 b = none ∨ h2 b = none
theorem sub.refl (h : PHeap) : sub h h := fun _ _ e => e
theorem sub.trans {a b c : PHeap} (h : sub a b) (k : sub b c) : sub a c := fun x o e => k x o (h x o e)
theorem dj.symm {a b : PHeap} (h : dj a b) : dj b a := fun x => (h x).symm
theorem dj.mono {a b a' b' : PHeap} (h : dj a b) (ha : sub a' a) (hb : sub b' b) : dj a' b' := fun x => by
 rcases h x with e | e
 ·left; cases k : a' x with
  | none => rfl
  | some o => rw [ha x o k] at e; cases e
 ·right; cases k : b' x with
  | none => rfl
  | some o => rw [hb x o k] at e; cases e
def un (h1 h2 : PHeap) : PHeap := fun b => match h1 b with | some o => some o | none => h2 b
theorem sub_un_left (a b : PHeap) : sub a (un a b) := fun x o e => by simp [un, e]
theorem sub_un_right {a b : PHeap} (h : dj a b) : sub b (un a b) := fun x o e => by
 rcases h x with k | k
 ·simp [un, k, e]
 ·rw [k] at e; cases e
theorem un_sub {a b c : PHeap} (ha : sub a c) (hb : sub b c) : sub (un a b) c := fun x o e => by
 unfold un at e
 cases k : a x with
 | none => rw [k] at e; exact hb x o e
 | some u => rw [k] at e; exact ha x o (k.trans e)
theorem dj_un {a b c : PHeap} (h1 : dj a c) (h2 : dj b c) : dj (un a b) c := fun x => by
 rcases h1 x with e | e
 ·rcases h2 x with k | k
  ·left; simp [un, e, k]
  ·exact .inr k
 ·exact .inr e
def star : List Asn → PHeap → Prop
 | [], _ => True
 | A :: S, h => ∃ h1 h2, dj h1 h2 ∧ sub h1 h ∧ sub h2 h ∧ A h1 ∧ star S h2
def pt (b : Nat) (o : Obj) : Asn := fun h => h b = some o
theorem star_mono {S : List Asn} {h h' : PHeap} (hs : star S h) (k : sub h h') : star S h' := by
 cases S with
 | nil => trivial
 | cons A S =>
  obtain ⟨h1, h2, d, s1, s2, a, r⟩ := hs
  exact ⟨h1, h2, d, s1.trans k, s2.trans k, a, r⟩
theorem star_append {S T : List Asn} {h : PHeap} : star (S ++ T) h ↔ ∃ h1 h2, dj h1 h2 ∧ sub h1 h ∧ sub h2 h ∧ star S h1 ∧ star T h2 := by
 induction S generalizing h with
 | nil =>
  constructor
  ·intro r; exact ⟨fun _ => none, h, fun _ => .inl rfl, fun _ _ e => (by cases e), sub.refl h, trivial, r⟩
  ·rintro ⟨h1, h2, _, _, s2, _, r⟩; exact star_mono r s2
 | cons A S ih =>
  constructor
  ·rintro ⟨h1, h2, d, s1, s2, a, r⟩
   obtain ⟨k1, k2, d', t1, t2, r1, r2⟩ := ih.1 r
   refine ⟨un h1 k1, k2, dj_un (d.mono (sub.refl _) t2) d', un_sub s1 (t1.trans s2), t2.trans s2, ⟨h1, k1, d.mono (sub.refl _) t1, sub_un_left _ _, sub_un_right (d.mono (sub.refl _) t1), a, r1⟩, r2⟩
  ·rintro ⟨g1, g2, d, s1, s2, ⟨h1, h2, d', t1, t2, a, r⟩, r2⟩
   refine ⟨h1, un h2 g2, ?_, t1.trans s1, un_sub (t2.trans s1) s2, a, ih.2 ⟨h2, g2, d.mono t2 (sub.refl _), sub_un_left _ _, sub_un_right (d.mono t2 (sub.refl _)), r, r2⟩⟩
   exact (dj_un d'.symm (d.mono t1 (sub.refl _)).symm).symm
theorem star_swap {A B : Asn} {S : List Asn} {h : PHeap} (hs : star (A :: B :: S) h) : star (B :: A :: S) h := by
 obtain ⟨h1, h2, d, s1, s2, a, k1, k2, d', t1, t2, b, r⟩ := hs
 refine ⟨k1, un h1 k2, ?_, t1.trans s2, un_sub s1 (t2.trans s2), b, h1, k2, d.mono (sub.refl _) t2, sub_un_left _ _, sub_un_right (d.mono (sub.refl _) t2), a, r⟩
 exact (dj_un (d.mono (sub.refl _) t1) d'.symm).symm
theorem star_perm {S T : List Asn} (p : S.Perm T) : ∀ {h : PHeap}, star S h → star T h := by
 induction p with
 | nil => intro h r; exact r
 | cons A _ ih => rintro h ⟨h1, h2, d, s1, s2, a, r⟩; exact ⟨h1, h2, d, s1, s2, a, ih r⟩
 | swap A B S => intro h r; exact star_swap r
 | trans _ _ ih1 ih2 => intro h r; exact ih2 (ih1 r)
theorem star_drop {A : Asn} {S : List Asn} {h : PHeap} (hs : star (A :: S) h) : star S h := by
 obtain ⟨_, _, _, _, s2, _, r⟩ := hs; exact star_mono r s2
def Ent (S T : List Asn) : Prop := ∀ h, star S h → star T h
theorem Ent.refl (S : List Asn) : Ent S S := fun _ h => h
theorem Ent.trans {S T U : List Asn} (h : Ent S T) (k : Ent T U) : Ent S U := fun x r => k x (h x r)
theorem Ent.perm {S T : List Asn} (p : S.Perm T) : Ent S T := fun _ => star_perm p
theorem Ent.frame {S T : List Asn} (h : Ent S T) (F : List Asn) : Ent (S ++ F) (T ++ F) := fun x r => by
 obtain ⟨h1, h2, d, s1, s2, a, b⟩ := star_append.1 r
 exact star_append.2 ⟨h1, h2, d, s1, s2, h h1 a, b⟩
theorem Ent.frame_left {S T : List Asn} (h : Ent S T) (F : List Asn) : Ent (F ++ S) (F ++ T) := fun x r => by
 obtain ⟨h1, h2, d, s1, s2, a, b⟩ := star_append.1 r
 exact star_append.2 ⟨h1, h2, d, s1, s2, a, h h2 b⟩
theorem Ent.cons {S T : List Asn} (A : Asn) (h : Ent S T) : Ent (A :: S) (A :: T) := h.frame_left [A]
theorem Ent.drop (A : Asn) (S : List Asn) : Ent (A :: S) S := fun _ => star_drop
theorem Ent.left (S F : List Asn) : Ent (S ++ F) S := fun _ r => by
 obtain ⟨h1, h2, d, s1, s2, a, b⟩ := star_append.1 r; exact star_mono a s1
theorem Ent.right (S F : List Asn) : Ent (S ++ F) F := fun _ r => by
 obtain ⟨h1, h2, d, s1, s2, a, b⟩ := star_append.1 r; exact star_mono b s2
theorem Ent.head {A : Asn} {L S : List Asn} (h : ∀ x, A x → star L x) : Ent (A :: S) (L ++ S) := fun x r => by
 obtain ⟨h1, h2, d, s1, s2, a, b⟩ := r
 exact star_append.2 ⟨h1, h2, d, s1, s2, h h1 a, b⟩
theorem Ent.fold {A : Asn} {L S : List Asn} (h : ∀ x, star L x → A x) : Ent (L ++ S) (A :: S) := fun x r => by
 obtain ⟨h1, h2, d, s1, s2, a, b⟩ := star_append.1 r
 exact ⟨h1, h2, d, s1, s2, h h1 a, b⟩
def at? : List Asn → Nat → Option Asn
 | [], _ => none
 | A :: _, 0 => some A
 | _ :: S, n + 1 => at? S n
def put : List Asn → Nat → Asn → List Asn
 | [], _, _ => []
 | _ :: S, 0, B => B :: S
 | A :: S, n + 1, B => A :: put S n B
def del : List Asn → Nat → List Asn
 | [], _ => []
 | _ :: S, 0 => S
 | A :: S, n + 1 => A :: del S n
def take : List Asn → List Nat → Option (List Asn × List Asn)
 | S, [] => some ([], S)
 | S, n :: ns => match at? S n with
  | none => none
  | some A => match take (del S n) ns with
   | none => none
   | some (L, R) => some (A :: L, R)
theorem at?_append {S F : List Asn} {n : Nat} {A : Asn} (h : at? S n = some A) : at? (S ++ F) n = some A ∧ ∀ B, put (S ++ F) n B = put S n B ++ F := by
 induction S generalizing n with
 | nil => cases h
 | cons B S ih => cases n with
  | zero => exact ⟨h, fun _ => rfl⟩
  | succ n => exact ⟨(ih h).1, fun B => by simp [put, (ih h).2]⟩
theorem perm_del {S : List Asn} {n : Nat} {A : Asn} (h : at? S n = some A) : S.Perm (A :: del S n) := by
 induction S generalizing n with
 | nil => cases h
 | cons B S ih => cases n with
  | zero => cases h; exact .refl _
  | succ n => exact ((ih h).cons B).trans (.swap _ _ _)
theorem perm_put {S : List Asn} {n : Nat} {A : Asn} (h : at? S n = some A) (B : Asn) : (put S n B).Perm (B :: del S n) := by
 induction S generalizing n with
 | nil => cases h
 | cons C S ih => cases n with
  | zero => cases h; exact .refl _
  | succ n => exact ((ih h).cons C).trans (.swap _ _ _)
def upd (h : PHeap) (b : Nat) (o : Obj) : PHeap := fun k => if k = b then some o else h k
theorem star_upd_head {b : Nat} {o o' : Obj} {S : List Asn} {h : PHeap} (hs : star (pt b o :: S) h) : star (pt b o' :: S) (upd h b o') := by
 obtain ⟨h1, h2, d, s1, s2, a, r⟩ := hs
 have h2b : h2 b = none := (d b).resolve_left (by unfold pt at a; rw [a]; simp)
 refine ⟨fun k => if k = b then some o' else none, h2, fun k => ?_, fun k u e => ?_, fun k u e => ?_, by simp [pt], r⟩
 ·by_cases hk : k = b
  ·right; rw [hk]; exact h2b
  ·left; simp [hk]
 ·by_cases hk : k = b
  ·simp only [hk, if_true] at e; simp [upd, hk, e]
  ·simp [hk] at e
 ·by_cases hk : k = b
  ·rw [hk, h2b] at e; cases e
  ·simp only [upd, hk, if_false]; exact s2 k u e
theorem star_new {b : Nat} {o : Obj} {S : List Asn} {h : PHeap} (hs : star S h) (hb : h b = none) : star (pt b o :: S) (upd h b o) := by
 refine ⟨fun k => if k = b then some o else none, h, fun k => ?_, fun k u e => ?_, fun k u e => ?_, by simp [pt], hs⟩
 ·by_cases hk : k = b
  ·right; rw [hk]; exact hb
  ·left; simp [hk]
 ·by_cases hk : k = b
  ·simp only [hk, if_true] at e; simp [upd, hk, e]
  ·simp [hk] at e
 ·by_cases hk : k = b
  ·rw [hk, hb] at e; cases e
  ·simp only [upd, hk, if_false]; exact e
theorem star_get {S : List Asn} {n b : Nat} {o : Obj} {h : PHeap} (hs : star S h) (hn : at? S n = some (pt b o)) : h b = some o := by
 obtain ⟨h1, _, _, s1, _, a, _⟩ := star_perm (perm_del hn) hs
 exact s1 b o a
theorem star_put {S : List Asn} {n b : Nat} {o o' : Obj} {h : PHeap} (hs : star S h) (hn : at? S n = some (pt b o)) : star (put S n (pt b o')) (upd h b o') :=
 star_perm (perm_put hn _).symm (star_upd_head (star_perm (perm_del hn) hs))
theorem star_ne {S : List Asn} {b c : Nat} {o u : Obj} {h : PHeap} (hs : star (pt b o :: pt c u :: S) h) : b ≠ c := by
 obtain ⟨h1, h2, d, s1, s2, a, k1, k2, d', t1, t2, e, r⟩ := hs
 rintro rfl
 unfold pt at a e
 have := t1 _ _ e
 rcases d b with q | q
 ·rw [q] at a; cases a
 ·rw [q] at this; cases this
structure Ghost where
 os : Os
 tape : Nat → Question → Nat
 output : Array (Nat × ByteArray)
 n : Nat
def heapOf (w : World) : PHeap := fun b => w.heap[b]?
structure sat (G : Ghost) (w : World) (S : List Asn) : Prop where
 os : w.os = G.os
 tape : w.tape = G.tape
 output : w.output = G.output
 size : G.n ≤ w.heap.size
 heap : star S (heapOf w)
theorem sat.ent {G : Ghost} {w : World} {S T : List Asn} (h : sat G w S) (k : Ent S T) : sat G w T := ⟨h.os, h.tape, h.output, h.size, k _ h.heap⟩
theorem sat.get {G : Ghost} {w : World} {S F : List Asn} {n b : Nat} {o : Obj} (h : sat G w (S ++ F)) (hn : at? S n = some (pt b o)) : w.heap[b]? = some o :=
 star_get h.heap (at?_append hn).1
theorem sat.put {G : Ghost} {w w' : World} {S F : List Asn} {n b : Nat} {o o' : Obj} (h : sat G w (S ++ F)) (hn : at? S n = some (pt b o))
  (hos : w'.os = w.os) (ht : w'.tape = w.tape) (ho : w'.output = w.output) (hh : w'.heap = w.heap.setIfInBounds b o') : sat G w' (put S n (pt b o') ++ F) := by
 have hb := h.get hn
 have hlt : b < w.heap.size := (Array.getElem?_eq_some_iff.1 hb).1
 refine ⟨hos.trans h.os, ht.trans h.tape, ho.trans h.output, by rw [hh]; simpa using h.size, ?_⟩
 have := star_put (o' := o') h.heap (at?_append hn).1
 rw [(at?_append hn).2] at this
 refine star_mono this fun k u e => ?_
 unfold upd at e
 unfold heapOf
 rw [hh]
 by_cases hk : k = b
 ·simp only [hk, if_true] at e; rw [hk, Array.getElem?_setIfInBounds_self_of_lt hlt]; exact e
 ·simp only [hk, if_false] at e; rw [Array.getElem?_setIfInBounds_ne (fun q => hk q.symm)]; exact e
theorem sat.new {G : Ghost} {w w' : World} {S F : List Asn} {o : Obj} (h : sat G w (S ++ F))
  (hos : w'.os = w.os) (ht : w'.tape = w.tape) (ho : w'.output = w.output) (hh : w'.heap = w.heap.push o) : sat G w' ((pt w.heap.size o :: S) ++ F) := by
 refine ⟨hos.trans h.os, ht.trans h.tape, ho.trans h.output, by rw [hh]; have := h.size; simp; omega, ?_⟩
 have := star_new (o := o) (b := w.heap.size) h.heap (by simp [heapOf])
 refine star_mono this fun k u e => ?_
 unfold upd at e
 unfold heapOf at *
 rw [hh, Array.getElem?_push]
 by_cases hk : k = w.heap.size
 ·simp only [hk, if_true] at e ⊢; exact e
 ·simp only [hk, if_false] at e ⊢; exact e
theorem sat.same {G : Ghost} {w w' : World} {S : List Asn} (h : sat G w S)
  (hos : w'.os = w.os) (ht : w'.tape = w.tape) (ho : w'.output = w.output) (hh : w'.heap = w.heap) : sat G w' S :=
 ⟨hos.trans h.os, ht.trans h.tape, ho.trans h.output, by rw [hh]; exact h.size, by have := h.heap; unfold heapOf at *; rw [hh]; exact this⟩
abbrev KEnv := List (Nat × Value)
def look : KEnv → Nat → Option Value
 | [], _ => none
 | (k, v) :: r, n => bif Nat.beq k n then some v else look r n
def ev (env : KEnv) : Operand → Option Value
 | .tmp t => look env t
 | .const v => some v
 | .global g => some (.pointer (some ⟨g, 0, none⟩))
 | .func f => some (.func (.func f) #[] #[])
def evs (env : KEnv) : List Operand → Option (List Value)
 | [] => some []
 | x :: xs => match ev env x with
  | none => none
  | some v => match evs env xs with
   | none => none
   | some vs => some (v :: vs)
def Agrees (a : Act) (env : KEnv) : Prop := ∀ t v, look env t = some v → a.tmps[t]? = some v
theorem Agrees.eval {a : Act} {env : KEnv} (h : Agrees a env) {x : Operand} {v : Value} (hx : ev env x = some v) : a.eval x = v := by
 cases x with
 | tmp t => have := h t v hx; simp only [Act.eval, Array.getD_eq_getD_getElem?, this, Option.getD_some]
 | const u => cases hx; rfl
 | global g => cases hx; rfl
 | func f => cases hx; rfl
theorem Agrees.evals {a : Act} {env : KEnv} (h : Agrees a env) : ∀ {xs : List Operand} {vs : List Value}, evs env xs = some vs → xs.map a.eval = vs := by
 intro xs
 induction xs with
 | nil => intro vs e; cases e; rfl
 | cons x xs ih =>
  intro vs e
  unfold evs at e
  cases hx : ev env x with
  | none => rw [hx] at e; cases e
  | some v =>
   rw [hx] at e; simp only at e
   cases hxs : evs env xs with
   | none => rw [hxs] at e; cases e
   | some us => rw [hxs] at e; cases e; simp [h.eval hx, ih hxs]
theorem Agrees.put {a : Act} {env : KEnv} (h : Agrees a env) {d : Nat} {v : Value} (hd : d < a.tmps.size) : Agrees (a.put (some d) v) ((d, v) :: env) := by
 intro t u e
 unfold look at e
 simp only [Act.put]
 cases hk : Nat.beq d t with
 | true =>
  have := Nat.eq_of_beq_eq_true hk; subst this
  rw [hk] at e; cases e
  simp [hd]
 | false =>
  rw [hk] at e
  have hne : d ≠ t := fun q => by subst q; rw [Nat.beq_refl] at hk; cases hk
  rw [Array.getElem?_setIfInBounds_ne hne]; exact h t u e
def Less (e' e : KEnv) : Prop := ∀ t v, look e' t = some v → look e t = some v
def lessL (e : KEnv) : KEnv → Prop
 | [] => True
 | (t, v) :: r => look e t = some v ∧ lessL e r
theorem lessL.less {e : KEnv} : ∀ {e' : KEnv}, lessL e e' → Less e' e := by
 intro e'
 induction e' with
 | nil => intro _ t v q; cases q
 | cons p r ih =>
  obtain ⟨k, u⟩ := p
  intro h t v q
  unfold look at q
  cases hk : Nat.beq k t with
  | true => rw [hk] at q; cases q; have := Nat.eq_of_beq_eq_true hk; subst this; exact h.1
  | false => rw [hk] at q; exact ih h.2 t v q
theorem Agrees.less {a : Act} {e e' : KEnv} (h : Agrees a e) (k : Less e' e) : Agrees a e' := fun t v q => h t v (k t v q)
def keep (e : KEnv) : List Nat → KEnv
 | [] => []
 | t :: ts => match look e t with
  | some v => (t, v) :: keep e ts
  | none => keep e ts
abbrev Post := Exit → List Deferred → KEnv → List Asn → Prop
structure Holds (N : Nat) (G : Ghost) (F : List Asn) (D : List Deferred) (env : KEnv) (S : List Asn) (a : Act) (w : World) : Prop where
 size : a.tmps.size = N
 env : Agrees a env
 defers : a.defers = D
 sat : sat G w (S ++ F)
def lift (N : Nat) (G : Ghost) (F : List Asn) (Q : Post) : Exit → Act → World → Prop :=
 fun e a w => ∃ D env S, Q e D env S ∧ Holds N G F D env S a w
structure Trip (P : Program) (N : Nat) (c : Code) (D : List Deferred) (env : KEnv) (S : List Asn) (Q : Post) : Prop where
 run : ∀ G F a w, Holds N G F D env S a w → c.wp P (lift N G F Q) a w
structure TripL (P : Program) (N : Nat) (ops : List Oper) (items : List Oper) (D : List Deferred) (env : KEnv) (S : List Asn) (Q : Post) : Prop where
 run : ∀ G F a w, Holds N G F D env S a w → wpList P ops.toArray (lift N G F Q) items a w
def thenP (next : List Deferred → KEnv → List Asn → Prop) (Q : Post) : Post
 | .normal, D, env, S => next D env S
 | .exit i, D, env, S => Q (.exit i) D env S
 | .goto l, D, env, S => Q (.goto l) D env S
 | .ret, D, env, S => Q .ret D env S
 | .panic c, D, env, S => Q (.panic c) D env S
 | .outgrown, D, env, S => Q .outgrown D env S
def blockP (id : Nat) (Q : Post) : Post
 | .normal, D, env, S => Q .normal D env S
 | .exit i, D, env, S => bif Nat.beq i id then Q .normal D env S else Q (.exit i) D env S
 | .goto l, D, env, S => Q (.goto l) D env S
 | .ret, D, env, S => Q .ret D env S
 | .panic c, D, env, S => Q (.panic c) D env S
 | .outgrown, D, env, S => Q .outgrown D env S
section rules
variable {P : Program} {N : Nat} {D : List Deferred} {env : KEnv} {S : List Asn} {Q : Post}
theorem t_skip (h : Q .normal D env S) : Trip P N .skip D env S Q := ⟨fun _ _ _ _ k => wp_skip ⟨D, env, S, h, k⟩⟩
theorem t_exit {id : Nat} (h : Q (.exit id) D env S) : Trip P N (.exit id) D env S Q := ⟨fun _ _ _ _ k => wp_exit ⟨D, env, S, h, k⟩⟩
theorem t_ret (h : Q .ret D env S) : Trip P N .ret D env S Q := ⟨fun _ _ _ _ k => wp_ret ⟨D, env, S, h, k⟩⟩
theorem t_seq {x y : Code} (h : Trip P N x D env S (thenP (fun D env S => Trip P N y D env S Q) Q)) : Trip P N (.seq x y) D env S Q :=
 ⟨fun G F a w k => wp_seq (Code.wp_mono (fun e a w q => by
  obtain ⟨D', env', S', q, k'⟩ := q
  cases e with
  | normal => exact q.run G F a w k'
  | exit i => exact ⟨D', env', S', q, k'⟩
  | goto i => exact ⟨D', env', S', q, k'⟩
  | ret => exact ⟨D', env', S', q, k'⟩
  | panic i => exact ⟨D', env', S', q, k'⟩
  | outgrown => exact ⟨D', env', S', q, k'⟩) (h.run G F a w k))⟩
theorem t_block {id : Nat} {c : Code} (h : Trip P N c D env S (blockP id Q)) : Trip P N (.block id c) D env S Q :=
 ⟨fun G F a w k => wp_block (Code.wp_mono (fun e a w q => by
  obtain ⟨D', env', S', q, k'⟩ := q
  cases e with
  | exit i =>
   unfold Exit.inBlock
   unfold blockP at q
   by_cases hi : i = id
   ·subst hi; simp only [Nat.beq_refl, cond_true] at q; simp only [if_true]; exact ⟨D', env', S', q, k'⟩
   ·have : Nat.beq i id = false := by cases hb : Nat.beq i id with
     | false => rfl
     | true => exact absurd (Nat.eq_of_beq_eq_true hb) hi
    simp only [this, cond_false] at q; simp only [hi, if_false]; exact ⟨D', env', S', q, k'⟩
  | normal => exact ⟨D', env', S', q, k'⟩
  | goto i => exact ⟨D', env', S', q, k'⟩
  | ret => exact ⟨D', env', S', q, k'⟩
  | panic i => exact ⟨D', env', S', q, k'⟩
  | outgrown => exact ⟨D', env', S', q, k'⟩) (h.run G F a w k))⟩
theorem t_if_true {c : Operand} {x y : Code} (hc : ev env c = some (.bool true)) (h : Trip P N x D env S Q) : Trip P N (.cond c x y) D env S Q :=
 ⟨fun G F a w k => wp_cond_true (k.env.eval hc) (h.run G F a w k)⟩
theorem t_if_false {c : Operand} {x y : Code} (hc : ev env c = some (.bool false)) (h : Trip P N y D env S Q) : Trip P N (.cond c x y) D env S Q :=
 ⟨fun G F a w k => wp_cond_false (k.env.eval hc) (h.run G F a w k)⟩
theorem t_if {c : Operand} {x y : Code} {t : Bool} (hc : ev env c = some (.bool t)) (ht : t = true → Trip P N x D env S Q) (hf : t = false → Trip P N y D env S Q) : Trip P N (.cond c x y) D env S Q := by
 cases t
 ·exact t_if_false hc (hf rfl)
 ·exact t_if_true hc (ht rfl)
theorem t_region {id : Nat} {l : List Oper} (h : TripL P N l l D env S Q) : Trip P N (.region id l.toArray false) D env S Q :=
 ⟨fun G F a w k => wp_region_lit (h.run G F a w k)⟩
theorem t_weaken {c : Code} {env' : KEnv} {S' : List Asn} (he : Less env' env) (hs : Ent S S') (h : Trip P N c D env' S' Q) : Trip P N c D env S Q :=
 ⟨fun G F a w k => h.run G F a w ⟨k.size, k.env.less he, k.defers, k.sat.ent (hs.frame F)⟩⟩
theorem l_weaken {ops items : List Oper} {env' : KEnv} {S' : List Asn} (he : Less env' env) (hs : Ent S S') (h : TripL P N ops items D env' S' Q) : TripL P N ops items D env S Q :=
 ⟨fun G F a w k => h.run G F a w ⟨k.size, k.env.less he, k.defers, k.sat.ent (hs.frame F)⟩⟩
theorem t_ent {c : Code} {S' : List Asn} (hs : Ent S S') (h : Trip P N c D env S' Q) : Trip P N c D env S Q := t_weaken (fun _ _ q => q) hs h
theorem l_ent {ops items : List Oper} {S' : List Asn} (hs : Ent S S') (h : TripL P N ops items D env S' Q) : TripL P N ops items D env S Q := l_weaken (fun _ _ q => q) hs h
theorem t_mono {c : Code} {Q' : Post} (h : Trip P N c D env S Q) (hq : ∀ e D env S, Q e D env S → Q' e D env S) : Trip P N c D env S Q' :=
 ⟨fun G F a w k => Code.wp_mono (fun e a w ⟨D, env, S, q, k⟩ => ⟨D, env, S, hq _ _ _ _ q, k⟩) (h.run G F a w k)⟩
theorem sat_ex {α : Type} {G : Ghost} {w : World} {A : Asn} {S : List Asn} {p : α → Prop} {L : α → List Asn} (hA : ∀ h, A h → ∃ x, p x ∧ star (L x) h) (k : sat G w (A :: S)) : ∃ x, p x ∧ sat G w (L x ++ S) := by
 obtain ⟨h1, h2, d, s1, s2, a, r⟩ := k.heap
 obtain ⟨x, hp, hl⟩ := hA h1 a
 exact ⟨x, hp, k.os, k.tape, k.output, k.size, star_append.2 ⟨h1, h2, d, s1, s2, hl, r⟩⟩
theorem sat_del {G : Ghost} {w : World} {S F : List Asn} {n : Nat} {A : Asn} (hn : at? S n = some A) (k : sat G w (S ++ F)) : sat G w (A :: (del S n ++ F)) :=
 k.ent (Ent.perm ((perm_del hn).append_right F))
theorem t_ex {α : Type} {c : Code} (n : Nat) {A : Asn} {p : α → Prop} {L : α → List Asn} (hn : at? S n = some A) (hA : ∀ h, A h → ∃ x, p x ∧ star (L x) h)
  (h : ∀ x, p x → Trip P N c D env (L x ++ del S n) Q) : Trip P N c D env S Q :=
 ⟨fun G F a w k => by
  obtain ⟨x, hp, k'⟩ := sat_ex hA (sat_del hn k.sat)
  exact (h x hp).run G F a w ⟨k.size, k.env, k.defers, by rw [List.append_assoc]; exact k'⟩⟩
theorem l_ex {α : Type} {ops items : List Oper} (n : Nat) {A : Asn} {p : α → Prop} {L : α → List Asn} (hn : at? S n = some A) (hA : ∀ h, A h → ∃ x, p x ∧ star (L x) h)
  (h : ∀ x, p x → TripL P N ops items D env (L x ++ del S n) Q) : TripL P N ops items D env S Q :=
 ⟨fun G F a w k => by
  obtain ⟨x, hp, k'⟩ := sat_ex hA (sat_del hn k.sat)
  exact (h x hp).run G F a w ⟨k.size, k.env, k.defers, by rw [List.append_assoc]; exact k'⟩⟩
theorem t_pure {c : Code} {p : Prop} (hp : ∀ h, star S h → p) (h : p → Trip P N c D env S Q) : Trip P N c D env S Q :=
 ⟨fun G F a w k => (h (by have := k.sat.ent (Ent.left S F); exact hp _ this.heap)).run G F a w k⟩
theorem least_of {p : Nat → Prop} (h : ∃ n, p n) : ∃ n, p n ∧ ∀ m, p m → n ≤ m := by
 obtain ⟨n, hn⟩ := h
 induction n using Nat.strongRecOn with
 | _ n ih =>
  by_cases hex : ∃ m, m < n ∧ p m
  ·obtain ⟨m, hm, hp⟩ := hex; exact ih m hm hp
  ·exact ⟨n, hn, fun m hm => by
    rcases Nat.lt_or_ge m n with q | q
    ·exact absurd ⟨m, q, hm⟩ hex
    ·exact q⟩
theorem wp_loop_n {c : Code} {Q : Exit → Act → World → Prop} {a : Act} {w : World} (I : Nat → Act → World → Prop) {n : Nat} (h0 : I n a w)
  (round : ∀ n a w, I n a w → c.wp P (Exit.then (fun a' w' => ∃ m, m < n ∧ I m a' w') Q) a w) : (Code.loop c).wp P Q a w := by
 classical
 let low : Act → World → Nat := fun a w => if h : ∃ n, I n a w then Classical.choose (least_of h) else 0
 refine wp_loop (fun a w => ∃ n, I n a w) low ⟨n, h0⟩ fun a w hex => ?_
 have hlow : low a w = Classical.choose (least_of hex) := dif_pos hex
 refine Code.wp_mono (fun e a' w' q => ?_) (round _ a w (Classical.choose_spec (least_of hex)).1)
 cases e with
 | normal =>
  obtain ⟨m, hm, hi⟩ := q
  have hex' : ∃ n, I n a' w' := ⟨m, hi⟩
  have h' : low a' w' = Classical.choose (least_of hex') := dif_pos hex'
  exact ⟨hex', by rw [h', hlow]; exact Nat.lt_of_le_of_lt ((Classical.choose_spec (least_of hex')).2 m hi) hm⟩
 | exit i => exact q
 | goto i => exact q
 | ret => exact q
 | panic i => exact q
 | outgrown => exact q
theorem t_loop {c : Code} (I : Nat → KEnv → List Asn → Prop) (n : Nat) (env0 : KEnv) (S0 : List Asn) (h0 : I n env0 S0) (he : Less env0 env) (hs : Ent S S0)
  (round : ∀ n env S, I n env S → Trip P N c D env S (thenP (fun D' env' S' => D' = D ∧ ∃ m env'' S'', m < n ∧ I m env'' S'' ∧ Less env'' env' ∧ Ent S' S'') Q)) : Trip P N (.loop c) D env S Q :=
 ⟨fun G F a w k => wp_loop_n (fun n a w => ∃ env S, I n env S ∧ Holds N G F D env S a w) (n := n)
  ⟨env0, S0, h0, k.size, k.env.less he, k.defers, k.sat.ent (hs.frame F)⟩ fun n a w ⟨env, S, hi, k⟩ =>
   Code.wp_mono (fun e a w q => by
    obtain ⟨D', env', S', q, k'⟩ := q
    cases e with
    | normal =>
     obtain ⟨rfl, m, env'', S'', hm, hi', hl, hs'⟩ := q
     exact ⟨m, hm, env'', S'', hi', k'.size, k'.env.less hl, k'.defers, k'.sat.ent (hs'.frame F)⟩
    | exit i => exact ⟨D', env', S', q, k'⟩
    | goto i => exact ⟨D', env', S', q, k'⟩
    | ret => exact ⟨D', env', S', q, k'⟩
    | panic i => exact ⟨D', env', S', q, k'⟩
    | outgrown => exact ⟨D', env', S', q, k'⟩) ((round n env S hi).run G F a w k)⟩
theorem l_nil {ops : List Oper} (h : Q .normal D env S) : TripL P N ops [] D env S Q := ⟨fun _ _ _ _ k => wpList_nil ⟨D, env, S, h, k⟩⟩
end rules
def Spec (P : Program) (f : FuncId) (args : List Value) (Pre : List Asn) (R : Value → List Asn → Prop) : Prop :=
 ∀ G F w, sat G w (Pre ++ F) → Calls P f args.toArray w fun e w' => ∃ v S', e = .returned v ∧ R v S' ∧ sat G w' (S' ++ F)
theorem Spec.mono {P : Program} {f : FuncId} {args : List Value} {Pre : List Asn} {R R' : Value → List Asn → Prop} (h : Spec P f args Pre R) (hr : ∀ v S, R v S → R' v S) : Spec P f args Pre R' :=
 fun G F w k => (h G F w k).mono fun _ _ ⟨v, S', e, r, s⟩ => ⟨v, S', e, hr _ _ r, s⟩
theorem Spec.pre {P : Program} {f : FuncId} {args : List Value} {Pre Pre' : List Asn} {R : Value → List Asn → Prop} (h : Spec P f args Pre R) (he : Ent Pre' Pre) : Spec P f args Pre' R :=
 fun G F w k => h G F w (k.ent (he.frame F))
theorem Spec.ex {α : Type} {P : Program} {f : FuncId} {args : List Value} {A : Asn} {Pre : List Asn} {R : Value → List Asn → Prop} {p : α → Prop} {L : α → List Asn}
  (hA : ∀ h, A h → ∃ x, p x ∧ star (L x) h) (h : ∀ x, p x → Spec P f args (L x ++ Pre) R) : Spec P f args (A :: Pre) R :=
 fun G F w k => by
  obtain ⟨x, hp, k'⟩ := sat_ex hA k
  exact h x hp G F w (by rw [List.append_assoc]; exact k')
end Go.Ox
end
