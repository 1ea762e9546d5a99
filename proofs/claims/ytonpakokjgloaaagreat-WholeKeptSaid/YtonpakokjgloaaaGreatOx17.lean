/- WholeKept, part 17. No condition. -/
import Derived.Test.YtonpakokjgloaaaGreatOx16
set_option linter.all false
section
set_option maxRecDepth 100000
set_option maxHeartbeats 800000
namespace Go.Ox
open Go Go.Proofs
structure It where
 k : Nat
 b : Nat
 m : Bool
def ptrI (x : It) : Value := .pointer (some ⟨x.b, 0, none⟩)
def rootP (L : Nat) : Value := .pointer (some ⟨L, 1, none⟩)
def itC (x : It) (p n : Value) : Asn := cellsAt x.b 251 [.int .i64 x.k, .int .i64 0, .bool x.m, p, n]
def hdV (n : Value) : List It → Value
 | [] => n
 | x :: _ => ptrI x
theorem hdV_nil (n : Value) : hdV n [] = n := rfl
theorem hdV_cons (n : Value) (x : It) (r : List It) : hdV n (x :: r) = ptrI x := rfl
def lsV (p : Value) : List It → Value
 | [] => p
 | x :: r => lsV (ptrI x) r
def seg (p n : Value) : List It → List Asn
 | [] => []
 | x :: r => itC x p (hdV n r) :: seg (ptrI x) n r
theorem hdV_append (n : Value) (a b : List It) : hdV n (a ++ b) = hdV (hdV n b) a := by cases a <;> rfl
theorem lsV_append (p : Value) : ∀ (a b : List It), lsV p (a ++ b) = lsV (lsV p a) b := by
 intro a
 induction a generalizing p with
 | nil => intro b; rfl
 | cons x a ih => intro b; exact ih (ptrI x) b
theorem seg_append (n : Value) : ∀ (a b : List It) (p : Value), seg p n (a ++ b) = seg p (hdV n b) a ++ seg (lsV p a) n b := by
 intro a
 induction a with
 | nil => intro b p; rfl
 | cons x a ih => intro b p; simp only [List.cons_append, seg, ih, hdV_append, lsV]
def rootC (L cap mp : Nat) (p n : Value) : Asn := cellsAt L 307 [.int .i64 cap, .int .i64 0, .int .i64 0, .bool false, p, n, .map (some mp)]
def ringL (L cap mp : Nat) (l : List It) : List Asn := rootC L cap mp (lsV (rootP L) l) (hdV (rootP L) l) :: seg (rootP L) (rootP L) l
theorem snoc_or (l : List It) : l = [] ∨ ∃ a x, l = a ++ [x] := by
 induction l with
 | nil => exact .inl rfl
 | cons y l ih =>
  right
  rcases ih with rfl | ⟨a, x, rfl⟩
  ·exact ⟨[], y, rfl⟩
  ·exact ⟨y :: a, x, rfl⟩
theorem pA {A X Y : Asn} {s m : List Asn} : (A :: (s ++ (Y :: X :: m))).Perm (X :: Y :: A :: (m ++ s)) :=
 (List.Perm.cons A List.perm_append_comm).trans ((List.Perm.swap Y A _).trans ((List.Perm.cons Y (List.Perm.swap X A _)).trans (List.Perm.swap X Y _)))
theorem pB {A X Y : Asn} {s m : List Asn} : (X :: Y :: A :: (m ++ s)).Perm (X :: A :: (s ++ (Y :: m))) :=
 List.Perm.cons X ((List.Perm.swap A Y _).trans (List.Perm.cons A (List.perm_append_comm (l₁ := Y :: m))))
theorem ring_mid (L cap mp : Nat) (pre post : List It) (y x : It) : ringL L cap mp (pre ++ [y] ++ x :: post) = rootC L cap mp (lsV (ptrI x) post) (hdV (ptrI y) pre) :: (seg (rootP L) (ptrI y) pre ++ (itC y (lsV (rootP L) pre) (ptrI x) :: itC x (ptrI y) (hdV (rootP L) post) :: seg (ptrI x) (rootP L) post)) := by
 simp only [ringL, seg_append, lsV_append, hdV_append, hdV_cons, hdV_nil, seg, lsV, List.append_assoc, List.cons_append, List.nil_append]
theorem ring_end (L cap mp : Nat) (pre post : List It) (y : It) : ringL L cap mp (pre ++ [y] ++ post) = rootC L cap mp (lsV (ptrI y) post) (hdV (ptrI y) pre) :: (seg (rootP L) (ptrI y) pre ++ (itC y (lsV (rootP L) pre) (hdV (rootP L) post) :: seg (ptrI y) (rootP L) post)) := by
 simp only [ringL, seg_append, lsV_append, hdV_append, hdV_cons, hdV_nil, seg, lsV, List.append_assoc, List.cons_append, List.nil_append]
theorem s_cut (L cap mp : Nat) (pre post : List It) (x : It) :
  Spec Tryz.prog 218 [ptrI x] (ringL L cap mp (pre ++ x :: post)) (fun _ S => ∃ p n, S = itC x p n :: ringL L cap mp (pre ++ post)) := by
 refine spec_of Tryz.func218 rfl Tryz.results218 Tryz.ntmps218 rfl ?_
 rcases snoc_or pre with rfl | ⟨pre, y, rfl⟩
 ·cases post with
  | nil =>
   refine t_same [rootC L cap mp (ptrI x) (ptrI x), itC x (rootP L) (rootP L)] rfl ?_
   refine t_draw (.eval 0 true (.eval 1 true (.eval 2 true (.eval 3 false (.eval 4 true (.eval 5 true (.eval 6 true (.eval 7 false (.eval 8 true (.eval 9 true (.eval 10 true (.eval 11 false (.eval 12 true (.eval 13 true (.eval 14 true (.eval 15 false (.eval 16 true (.eval 17 true (.eff 18 [] (.eval 19 true (.eval 20 true (.eff 21 [] .fin .stop))) .stop))))))))))))))))))) rfl (by kernel_rfl) ?_
   repeat' first | refine wk ?_ | refine wc ?_ ?_ <;> intro h <;> try omega | fail
   exact b_end (itC x (rootP L) (rootP L) :: ringL L cap mp []) rfl (Ent.pick xpkd) ⟨_, _, rfl⟩
  | cons z post =>
   refine t_same (rootC L cap mp (lsV (ptrI z) post) (ptrI x) :: itC x (rootP L) (ptrI z) :: itC z (ptrI x) (hdV (rootP L) post) :: seg (ptrI z) (rootP L) post) rfl ?_
   refine t_draw (.eval 0 true (.eval 1 true (.eval 2 true (.eval 3 false (.eval 4 true (.eval 5 true (.eval 6 true (.eval 7 false (.eval 8 true (.eval 9 true (.eval 10 true (.eval 11 false (.eval 12 true (.eval 13 true (.eval 14 true (.eval 15 false (.eval 16 true (.eval 17 true (.eff 18 [] (.eval 19 true (.eval 20 true (.eff 21 [] .fin .stop))) .stop))))))))))))))))))) rfl (by kernel_rfl) ?_
   repeat' first | refine wk ?_ | refine wc ?_ ?_ <;> intro h <;> try omega | fail
   exact b_end (itC x (rootP L) (ptrI z) :: ringL L cap mp (z :: post)) rfl (Ent.perm (.swap _ _ _)) ⟨_, _, rfl⟩
 ·rw [ring_mid]
  refine t_ent (Ent.perm pA) ?_
  cases post with
  | nil =>
   refine t_same (itC x (ptrI y) (rootP L) :: itC y (lsV (rootP L) pre) (ptrI x) :: rootC L cap mp (ptrI x) (hdV (ptrI y) pre) :: seg (rootP L) (ptrI y) pre) rfl ?_
   refine t_draw (.eval 0 true (.eval 1 true (.eval 2 true (.eval 3 false (.eval 4 true (.eval 5 true (.eval 6 true (.eval 7 false (.eval 8 true (.eval 9 true (.eval 10 true (.eval 11 false (.eval 12 true (.eval 13 true (.eval 14 true (.eval 15 false (.eval 16 true (.eval 17 true (.eff 18 [] (.eval 19 true (.eval 20 true (.eff 21 [] .fin .stop))) .stop))))))))))))))))))) rfl (by kernel_rfl) ?_
   repeat' first | refine wk ?_ | refine wc ?_ ?_ <;> intro h <;> try omega | fail
   refine b_end (itC x (ptrI y) (rootP L) :: ringL L cap mp (pre ++ [y] ++ [])) rfl ?_ ⟨_, _, rfl⟩
   rw [ring_end]
   exact Ent.perm (pB (m := []))
  | cons z post =>
   refine t_same (itC x (ptrI y) (ptrI z) :: itC y (lsV (rootP L) pre) (ptrI x) :: rootC L cap mp (lsV (ptrI z) post) (hdV (ptrI y) pre) :: itC z (ptrI x) (hdV (rootP L) post) :: (seg (ptrI z) (rootP L) post ++ seg (rootP L) (ptrI y) pre)) rfl ?_
   refine t_draw (.eval 0 true (.eval 1 true (.eval 2 true (.eval 3 false (.eval 4 true (.eval 5 true (.eval 6 true (.eval 7 false (.eval 8 true (.eval 9 true (.eval 10 true (.eval 11 false (.eval 12 true (.eval 13 true (.eval 14 true (.eval 15 false (.eval 16 true (.eval 17 true (.eff 18 [] (.eval 19 true (.eval 20 true (.eff 21 [] .fin .stop))) .stop))))))))))))))))))) rfl (by kernel_rfl) ?_
   repeat' first | refine wk ?_ | refine wc ?_ ?_ <;> intro h <;> try omega | fail
   refine b_end (itC x (ptrI y) (ptrI z) :: ringL L cap mp (pre ++ [y] ++ z :: post)) rfl ?_ ⟨_, _, rfl⟩
   rw [ring_end]
   exact Ent.perm (pB (m := itC z (ptrI y) (hdV (rootP L) post) :: seg (ptrI z) (rootP L) post))
theorem s_last (L cap mp : Nat) (l : List It) (x : It) (p n : Value) :
  Spec Tryz.prog 342 [.pointer (some ⟨L, 0, none⟩), ptrI x] (itC x p n :: ringL L cap mp l) (fun _ S => S = ringL L cap mp (l ++ [x])) := by
 refine spec_of Tryz.func342 rfl Tryz.results342 Tryz.ntmps342 rfl ?_
 rcases snoc_or l with rfl | ⟨l, y, rfl⟩
 ·refine t_same [itC x p n, rootC L cap mp (rootP L) (rootP L)] rfl ?_
  refine t_seq ?_
  refine t_draw (.eval 0 true (.eval 1 true (.eval 2 true (.eval 3 true (.eval 4 true (.eval 5 true (.eval 6 false (.eval 7 true (.eval 8 true (.eval 9 true (.eval 10 true (.eval 11 true (.eff 12 [] (.eval 13 true (.eval 14 true (.eff 15 [] .fin .stop))) .stop))))))))))))) rfl (by kernel_rfl) ?_
  repeat' first | refine wk ?_ | refine wc ?_ ?_ <;> intro h <;> try omega | fail
  exact b_end (ringL L cap mp ([] ++ [x])) rfl (Ent.pick xpkd) rfl
 ·have e : ringL L cap mp (l ++ [y]) = ringL L cap mp (l ++ [y] ++ []) := by rw [List.append_nil]
  rw [e, ring_end]
  refine t_ent (Ent.perm pB.symm) ?_
  refine t_same (itC x p n :: itC y (lsV (rootP L) l) (rootP L) :: rootC L cap mp (ptrI y) (hdV (ptrI y) l) :: seg (rootP L) (ptrI y) l) rfl ?_
  refine t_seq ?_
  refine t_draw (.eval 0 true (.eval 1 true (.eval 2 true (.eval 3 true (.eval 4 true (.eval 5 true (.eval 6 false (.eval 7 true (.eval 8 true (.eval 9 true (.eval 10 true (.eval 11 true (.eff 12 [] (.eval 13 true (.eval 14 true (.eff 15 [] .fin .stop))) .stop))))))))))))) rfl (by kernel_rfl) ?_
  repeat' first | refine wk ?_ | refine wc ?_ ?_ <;> intro h <;> try omega | fail
  refine b_end (ringL L cap mp (l ++ [y] ++ [x])) rfl ?_ rfl
  rw [ring_mid]
  exact Ent.perm (pA (m := [])).symm
def kInt : TypeDesc := .int .i64
def lruM (l : List It) : List (Value × Value) := l.map fun x => (.int .i64 x.k, ptrI x)
theorem lruM_mem {l : List It} {x : It} (h : x ∈ l) : (Value.int .i64 (x.k : Int), ptrI x) ∈ lruM l := List.mem_map_of_mem (f := fun x : It => (Value.int .i64 (x.k : Int), ptrI x)) h
theorem lruM_no {l : List It} {k : Nat} (h : ∀ x ∈ l, x.k ≠ k) : ∀ p ∈ lruM l, p.1 ≠ Value.int .i64 (k : Int) := by
 intro p hp he
 obtain ⟨x, hx, rfl⟩ := List.mem_map.1 hp
 simp only [Value.int.injEq, true_and] at he
 exact h x hx (by omega)
theorem lruM_mid (pre post : List It) (x : It) : (lruM (pre ++ x :: post)).Perm ((.int .i64 x.k, ptrI x) :: lruM (pre ++ post)) := by
 unfold lruM
 exact (List.perm_middle (a := x) (l₁ := pre) (l₂ := post)).map _
theorem lruM_perm {l l' : List It} (h : l.Perm l') : (lruM l).Perm (lruM l') := h.map _
def ringC (L cap mp : Nat) (l : List It) : Asn := fun h => star (ringL L cap mp l) h
theorem Spec.conseq {P : Program} {f : FuncId} {args : List Value} {Pre Pre' : List Asn} {R R' : Value → List Asn → Prop} (h : Spec P f args Pre R) (he : Ent Pre' Pre) (hr : ∀ v S, R v S → ∃ S', Ent S S' ∧ R' v S') : Spec P f args Pre' R' :=
 fun G F w k => (h G F w (k.ent (he.frame F))).mono fun _ _ ⟨v, S, e, r, s⟩ => by
  obtain ⟨S', hS, hR⟩ := hr v S r
  exact ⟨v, S', e, hR, s.ent (hS.frame F)⟩
theorem s_cutC (L cap mp : Nat) (pre post : List It) (x : It) :
  Spec Tryz.prog 218 [ptrI x] [ringC L cap mp (pre ++ x :: post)] (fun _ S => ∃ p n, S = [itC x p n, ringC L cap mp (pre ++ post)]) :=
 (s_cut L cap mp pre post x).conseq (fun h hs => by have := (Ent.head (A := ringC L cap mp (pre ++ x :: post)) (L := ringL L cap mp (pre ++ x :: post)) (S := []) (fun _ h => h)) h hs; rwa [List.append_nil] at this)
  fun v S ⟨p, n, hS⟩ => ⟨[itC x p n, ringC L cap mp (pre ++ post)], by
   rw [hS]; refine Ent.cons _ fun h hs => ?_
   exact (Ent.fold (A := ringC L cap mp (pre ++ post)) (L := ringL L cap mp (pre ++ post)) (S := []) (fun _ h => h)) h (by rwa [List.append_nil]), p, n, rfl⟩
theorem s_lastC (L cap mp : Nat) (l : List It) (x : It) (p n : Value) :
  Spec Tryz.prog 342 [.pointer (some ⟨L, 0, none⟩), ptrI x] [itC x p n, ringC L cap mp l] (fun _ S => S = [ringC L cap mp (l ++ [x])]) :=
 (s_last L cap mp l x p n).conseq (Ent.cons _ fun h hs => by have := (Ent.head (A := ringC L cap mp l) (L := ringL L cap mp l) (S := []) (fun _ h => h)) h hs; rwa [List.append_nil] at this)
  fun v S hS => ⟨[ringC L cap mp (l ++ [x])], by
   rw [hS]; intro h hs
   exact (Ent.fold (A := ringC L cap mp (l ++ [x])) (L := ringL L cap mp (l ++ [x])) (S := []) (fun _ h => h)) h (by rwa [List.append_nil]), rfl⟩
def lruX (L cap mp : Nat) (l : List It) : List Asn := [amap mp (.int .i64) (lruM l), ringC L cap mp l]
def lruC (L cap : Nat) (l : List It) : Asn := fun h => ∃ mp, star (lruX L cap mp l) h
theorem lru_open {L cap : Nat} {l : List It} : ∀ h, lruC L cap l h → ∃ mp, True ∧ star (lruX L cap mp l) h := fun _ ⟨mp, h⟩ => ⟨mp, trivial, h⟩
theorem lru_close {L cap mp : Nat} {l : List It} : ∀ h, star (lruX L cap mp l) h → lruC L cap l h := fun _ h => ⟨mp, h⟩
theorem ent_ring (L cap mp : Nat) (l l2 : List It) : Ent [amap mp (.int .i64) (lruM l2), ringC L cap mp l] (amap mp (.int .i64) (lruM l2) :: ringL L cap mp l) :=
 Ent.cons _ fun h hs => by have := (Ent.head (A := ringC L cap mp l) (L := ringL L cap mp l) (S := []) (fun _ h => h)) h hs; rwa [List.append_nil] at this
theorem ent_ring' (L cap mp : Nat) (l l2 : List It) : Ent (amap mp (.int .i64) (lruM l2) :: ringL L cap mp l) [amap mp (.int .i64) (lruM l2), ringC L cap mp l] :=
 Ent.cons _ fun h hs => (Ent.fold (A := ringC L cap mp l) (L := ringL L cap mp l) (S := []) (fun _ h => h)) h (by rwa [List.append_nil])
theorem amap_sub {b : Nat} {kd : TypeDesc} {l : List (Value × Value)} {h1 h : PHeap} (s : sub h1 h) (k : amap b kd l h1) : amap b kd l h := by
 obtain ⟨m, hp, es, clock, he, r⟩ := k
 exact ⟨m, hp, es, clock, s _ _ he, r⟩
theorem ent_lru {L cap mp : Nat} {l l' : List It} (hp : l.Perm l') : Ent [ringC L cap mp l', amap mp (.int .i64) (lruM l)] [lruC L cap l'] := fun h hs => by
 have h1 := Ent.perm (List.Perm.swap (amap mp (.int .i64) (lruM l)) (ringC L cap mp l') []) h hs
 have h2 := (Ent.fold (A := amap mp (.int .i64) (lruM l')) (L := [amap mp (.int .i64) (lruM l)]) (S := [ringC L cap mp l']) (fun x hx => by obtain ⟨a, b, _, s, _, ha, _⟩ := hx; exact amap_perm (lruM_perm hp) (amap_sub s ha))) h h1
 exact (Ent.fold (A := lruC L cap l') (L := lruX L cap mp l') (S := []) lru_close) h h2
theorem s_find (L cap mp : Nat) (l : List It) (x : It) (hx : x ∈ l) :
  Spec Tryz.prog 155 [.pointer (some ⟨L, 0, none⟩), .int .i64 x.k] (lruX L cap mp l) (fun v S => v = ptrI x ∧ S = lruX L cap mp l) := by
 refine spec_of Tryz.func155 rfl Tryz.results155 Tryz.ntmps155 rfl ?_
 refine t_ent (ent_ring L cap mp l l) ?_
 refine t_same (amap mp (.int .i64) (lruM l) :: rootC L cap mp (lsV (rootP L) l) (hdV (rootP L) l) :: seg (rootP L) (rootP L) l) rfl ?_
 repeat' first | refine wk ?_ | refine wc ?_ ?_ <;> intro h <;> try omega | refine l_qs (by exact c_lookup (ok := false) rfl rfl xfnd rfl rfl rfl rfl rfl (lruM_mem hx)) rfl ?_ | fail
 exact b_ret _ rfl (ent_ring' L cap mp l l) ⟨rfl, rfl⟩
theorem s_find_no (L cap mp : Nat) (l : List It) (k : Nat) (hx : ∀ x ∈ l, x.k ≠ k) :
  Spec Tryz.prog 155 [.pointer (some ⟨L, 0, none⟩), .int .i64 k] (lruX L cap mp l) (fun v S => v = .pointer none ∧ S = lruX L cap mp l) := by
 refine spec_of Tryz.func155 rfl Tryz.results155 Tryz.ntmps155 rfl ?_
 refine t_ent (ent_ring L cap mp l l) ?_
 refine t_same (amap mp (.int .i64) (lruM l) :: rootC L cap mp (lsV (rootP L) l) (hdV (rootP L) l) :: seg (rootP L) (rootP L) l) rfl ?_
 repeat' first | refine wk ?_ | refine wc ?_ ?_ <;> intro h <;> try omega | refine l_qs (by exact c_lookup_no (ok := false) rfl rfl xfnd rfl rfl rfl rfl rfl rfl (lruM_no hx)) rfl ?_ | fail
 exact b_ret _ rfl (ent_ring' L cap mp l l) ⟨rfl, rfl⟩
theorem s_use (L cap : Nat) (pre post : List It) (x : It) :
  Spec Tryz.prog 275 [.pointer (some ⟨L, 0, none⟩), .int .i64 x.k] [lruC L cap (pre ++ x :: post)] (fun v S => v = .bool true ∧ S = [lruC L cap (pre ++ post ++ [x])]) := by
 refine spec_of Tryz.func275 rfl Tryz.results275 Tryz.ntmps275 rfl ?_
 refine t_open lru_open .here fun mp _ => ?_
 refine t_tell rfl ?_
 repeat' first | refine wk ?_ | refine wc ?_ ?_ <;> intro h <;> try omega | fail
 refine c_call (s_find L cap mp (pre ++ x :: post) x (by simp)) rfl xpkd rfl rfl ?_
 rintro v S ⟨rfl, rfl⟩
 refine l_tell rfl ?_
 repeat' first | refine wk ?_ | refine wc ?_ ?_ <;> intro h <;> try omega | fail
 refine c_call (s_cutC L cap mp pre post x) rfl xpkd rfl rfl ?_
 rintro v S ⟨p, n, rfl⟩
 refine l_tell rfl ?_
 repeat' first | refine wk ?_ | refine wc ?_ ?_ <;> intro h <;> try omega | fail
 refine c_call (s_lastC L cap mp (pre ++ post) x p n) rfl xpkd rfl rfl ?_
 rintro v S rfl
 refine l_tell rfl ?_
 repeat' first | refine wk ?_ | refine wc ?_ ?_ <;> intro h <;> try omega | fail
 exact b_ret _ rfl (ent_lru (by rw [List.append_assoc]; exact List.Perm.append_left pre (List.perm_append_singleton x post).symm)) ⟨rfl, rfl⟩
theorem s_use_no (L cap k : Nat) (l : List It) (hk : ∀ x ∈ l, x.k ≠ k) :
  Spec Tryz.prog 275 [.pointer (some ⟨L, 0, none⟩), .int .i64 k] [lruC L cap l] (fun v S => v = .bool false ∧ S = [lruC L cap l]) := by
 refine spec_of Tryz.func275 rfl Tryz.results275 Tryz.ntmps275 rfl ?_
 refine t_open lru_open .here fun mp _ => ?_
 refine t_tell rfl ?_
 repeat' first | refine wk ?_ | refine wc ?_ ?_ <;> intro h <;> try omega | fail
 refine c_call (s_find_no L cap mp l k hk) rfl xpkd rfl rfl ?_
 rintro v S ⟨rfl, rfl⟩
 refine l_tell rfl ?_
 repeat' first | refine wk ?_ | refine wc ?_ ?_ <;> intro h <;> try omega | fail
 exact b_ret _ rfl (Ent.close lru_close xpkd) ⟨rfl, rfl⟩
theorem s_has_no (L cap k : Nat) (l : List It) (hk : ∀ x ∈ l, x.k ≠ k) :
  Spec Tryz.prog 365 [.pointer (some ⟨L, 0, none⟩), .int .i64 k] [lruC L cap l] (fun v S => v = .bool false ∧ S = [lruC L cap l]) := by
 refine spec_of Tryz.func365 rfl Tryz.results365 Tryz.ntmps365 rfl ?_
 refine t_open lru_open .here fun mp _ => ?_
 refine t_tell rfl ?_
 repeat' first | refine wk ?_ | refine wc ?_ ?_ <;> intro h <;> try omega | fail
 refine c_call (s_find_no L cap mp l k hk) rfl xpkd rfl rfl ?_
 rintro v S ⟨rfl, rfl⟩
 refine l_tell rfl ?_
 repeat' first | refine wk ?_ | refine wc ?_ ?_ <;> intro h <;> try omega | fail
 exact b_ret _ rfl (Ent.close lru_close xpkd) ⟨rfl, rfl⟩
theorem s_remove (L cap : Nat) (pre post : List It) (x : It) :
  Spec Tryz.prog 156 [.pointer (some ⟨L, 0, none⟩), .int .i64 x.k] [lruC L cap (pre ++ x :: post)] (fun _ S => S = [lruC L cap (pre ++ post)]) := by
 refine spec_of Tryz.func156 rfl Tryz.results156 Tryz.ntmps156 rfl ?_
 refine t_open lru_open .here fun mp _ => ?_
 refine t_tell rfl ?_
 refine t_ent (ent_ring L cap mp _ _) ?_
 refine t_same (amap mp (.int .i64) (lruM (pre ++ x :: post)) :: rootC L cap mp (lsV (rootP L) (pre ++ x :: post)) (hdV (rootP L) (pre ++ x :: post)) :: seg (rootP L) (rootP L) (pre ++ x :: post)) rfl ?_
 repeat' first | refine wk ?_ | refine wc ?_ ?_ <;> intro h <;> try omega | refine l_qs (by exact c_lookup (ok := false) rfl rfl xfnd rfl rfl rfl rfl rfl (lruM_mem (x := x) (by simp))) rfl ?_ | fail
 refine l_ent (ent_ring' L cap mp _ _) ?_
 refine c_call (s_cutC L cap mp pre post x) rfl xpkd rfl rfl ?_
 rintro v S ⟨p, n, rfl⟩
 refine l_tell rfl ?_
 refine l_ent (S' := [amap mp (.int .i64) (lruM (pre ++ x :: post)), ringC L cap mp (pre ++ post)]) (Ent.pick xpkd) ?_
 refine l_ent (ent_ring L cap mp _ _) ?_
 refine l_same (amap mp (.int .i64) (lruM (pre ++ x :: post)) :: rootC L cap mp (lsV (rootP L) (pre ++ post)) (hdV (rootP L) (pre ++ post)) :: seg (rootP L) (rootP L) (pre ++ post)) rfl ?_
 repeat' first | refine wk ?_ | refine wc ?_ ?_ <;> intro h <;> try omega | fail
 refine c_delete rfl rfl .here rfl rfl rfl rfl rfl rfl (lruM_mid pre post x) ?_
 repeat' first | refine wk ?_ | refine wc ?_ ?_ <;> intro h <;> try omega | fail
 exact b_end _ rfl ((ent_ring' L cap mp _ _).trans (Ent.close lru_close xpkd)) rfl
def holeC (L cap mp : Nat) (pre post : List It) (b : Nat) : Asn := fun h => star (rootC L cap mp (lsV (.pointer (some ⟨b, 0, none⟩)) post) (hdV (.pointer (some ⟨b, 0, none⟩)) pre) :: (seg (rootP L) (.pointer (some ⟨b, 0, none⟩)) pre ++ seg (.pointer (some ⟨b, 0, none⟩)) (rootP L) post)) h
theorem ring_eq (L cap mp : Nat) (pre post : List It) (x : It) : ringL L cap mp (pre ++ x :: post) = rootC L cap mp (lsV (ptrI x) post) (hdV (ptrI x) pre) :: (seg (rootP L) (ptrI x) pre ++ (itC x (lsV (rootP L) pre) (hdV (rootP L) post) :: seg (ptrI x) (rootP L) post)) := by
 simp only [ringL, seg_append, lsV_append, hdV_append, hdV_cons, seg, lsV]
theorem ent_at (L cap mp : Nat) (pre post : List It) (x : It) : Ent [ringC L cap mp (pre ++ x :: post)] [itC x (lsV (rootP L) pre) (hdV (rootP L) post), holeC L cap mp pre post x.b] := fun h hs => by
 have h1 := (Ent.head (A := ringC L cap mp (pre ++ x :: post)) (L := ringL L cap mp (pre ++ x :: post)) (S := []) (fun _ h => h)) h hs
 rw [List.append_nil, ring_eq] at h1
 have h2 := Ent.perm ((List.perm_middle.cons _).trans (List.Perm.swap _ _ _)) h h1
 refine Ent.cons _ (fun h' hs' => ?_) h h2
 exact (Ent.fold (A := holeC L cap mp pre post x.b) (L := _) (S := []) (fun _ h => h)) h' (by rw [List.append_nil]; exact hs')
theorem ent_at' (L cap mp : Nat) (pre post : List It) (x : It) : Ent [itC x (lsV (rootP L) pre) (hdV (rootP L) post), holeC L cap mp pre post x.b] [ringC L cap mp (pre ++ x :: post)] := fun h hs => by
 have h1 := Ent.cons _ (T := rootC L cap mp (lsV (ptrI x) post) (hdV (ptrI x) pre) :: (seg (rootP L) (ptrI x) pre ++ seg (ptrI x) (rootP L) post)) (fun h' hs' => by
  have := (Ent.head (A := holeC L cap mp pre post x.b) (S := []) (fun _ h => h)) h' hs'
  rwa [List.append_nil] at this) h hs
 have h2 := Ent.perm ((List.Perm.swap _ _ _).trans (List.perm_middle.symm.cons _)) h h1
 rw [← ring_eq] at h2
 exact (Ent.fold (A := ringC L cap mp (pre ++ x :: post)) (L := ringL L cap mp (pre ++ x :: post)) (S := []) (fun _ h => h)) h (by rwa [List.append_nil])
theorem s_drop (L cap : Nat) (pre post : List It) (x : It) :
  Spec Tryz.prog 101 [.pointer (some ⟨L, 0, none⟩), .int .i64 x.k] [lruC L cap (pre ++ x :: post)] (fun v S => v = .bool true ∧ S = [lruC L cap (pre ++ post)]) := by
 refine spec_of Tryz.func101 rfl Tryz.results101 Tryz.ntmps101 rfl ?_
 refine t_open lru_open .here fun mp _ => ?_
 refine t_tell rfl ?_
 repeat' first | refine wk ?_ | refine wc ?_ ?_ <;> intro h <;> try omega | fail
 refine c_call (s_find L cap mp (pre ++ x :: post) x (by simp)) rfl xpkd rfl rfl ?_
 rintro v S ⟨rfl, rfl⟩
 refine l_tell rfl ?_
 repeat' first | refine wk ?_ | refine wc ?_ ?_ <;> intro h <;> try omega | fail
 refine l_ent (Ent.cons _ (ent_at L cap mp pre post x)) ?_
 repeat' first | refine wk ?_ | refine wc ?_ ?_ <;> intro h <;> try omega | fail
 refine l_ent (Ent.cons _ (ent_at' L cap mp pre post x)) ?_
 refine l_ent (Ent.close lru_close xpkd) ?_
 refine c_call (s_remove L cap pre post x) rfl xpkd rfl rfl ?_
 rintro v S rfl
 refine l_tell rfl ?_
 repeat' first | refine wk ?_ | refine wc ?_ ?_ <;> intro h <;> try omega | fail
 exact b_ret _ rfl (Ent.refl _) ⟨rfl, rfl⟩
theorem s_mark (L cap : Nat) (pre post : List It) (x : It) (on : Bool) :
  Spec Tryz.prog 297 [.pointer (some ⟨L, 0, none⟩), .int .i64 x.k, .bool on] [lruC L cap (pre ++ x :: post)] (fun v S => v = .bool true ∧ S = [lruC L cap (pre ++ ⟨x.k, x.b, on⟩ :: post)]) := by
 refine spec_of Tryz.func297 rfl Tryz.results297 Tryz.ntmps297 rfl ?_
 refine t_open lru_open .here fun mp _ => ?_
 refine t_tell rfl ?_
 repeat' first | refine wk ?_ | refine wc ?_ ?_ <;> intro h <;> try omega | fail
 refine c_call (s_find L cap mp (pre ++ x :: post) x (by simp)) rfl xpkd rfl rfl ?_
 rintro v S ⟨rfl, rfl⟩
 refine l_tell rfl ?_
 refine l_ent (Ent.cons _ (ent_at L cap mp pre post x)) ?_
 repeat' first | refine wk ?_ | refine wc ?_ ?_ <;> intro h <;> try omega | fail
 have hM : lruM (pre ++ x :: post) = lruM (pre ++ ⟨x.k, x.b, on⟩ :: post) := by simp [lruM, ptrI]
 rw [hM]
 refine b_ret _ rfl ((Ent.cons _ (ent_at' L cap mp pre post ⟨x.k, x.b, on⟩)).trans (Ent.close lru_close xpkd)) ⟨rfl, rfl⟩
theorem s_lruAdd (L cap k : Nat) (l : List It) (hk : ∀ x ∈ l, x.k ≠ k) (hl : l.length < cap) :
  Spec Tryz.prog 344 [.pointer (some ⟨L, 0, none⟩), .int .i64 k] [lruC L cap l] (fun v S => ∃ b, v = .tuple #[.int .i64 0, .bool false, .int .i64 0] ∧ S = [lruC L cap (l ++ [⟨k, b, false⟩])]) := by
 refine spec_of Tryz.func344 rfl Tryz.results344 Tryz.ntmps344 rfl ?_
 repeat' first | refine wk ?_ | refine wc ?_ ?_ <;> intro h <;> try omega | fail
 refine c_call (s_has_no L cap k l hk) rfl xpkd rfl rfl ?_
 rintro v S ⟨rfl, rfl⟩
 refine l_tell rfl ?_
 refine l_open lru_open .here fun mp _ => ?_
 refine l_tell rfl ?_
 refine l_ent (ent_ring L cap mp _ _) ?_
 refine l_same (amap mp (.int .i64) (lruM l) :: rootC L cap mp (lsV (rootP L) l) (hdV (rootP L) l) :: seg (rootP L) (rootP L) l) rfl ?_
 have hlen : (lruM l).length = l.length := by simp [lruM]
 repeat' first | refine wk ?_ | refine wc ?_ ?_ <;> intro h <;> try omega | fail
 refine t_draw (.eval 0 true (.eval 1 true (.eval 2 true (.eval 3 false (.eval 4 false (.eval 5 true (.eval 6 true (.eval 7 true (.eval 8 false (.eval 9 true .fin)))))))))) rfl (by kernel_rfl) ?_
 repeat' first | refine wk ?_ | refine wc ?_ ?_ <;> intro h <;> try omega | refine l_qs (by exact c_lenMap rfl xfnd rfl rfl) rfl ?_ | refine d_qs rfl (by exact c_lenMap rfl xfnd rfl rfl) rfl ?_ | refine d_gqs rfl rfl (by exact c_lenMap rfl xfnd rfl rfl) rfl ?_ | (refine n_eff ?_ ?_; · (repeat first | refine wre ?_ | refine r_cons rfl (by first | exact c_lenMap rfl xfnd rfl rfl | fail) rfl ?_ | refine r_gcons rfl rfl (by first | exact c_lenMap rfl xfnd rfl rfl | fail) rfl ?_ | exact r_nil | fail)) | fail
 refine o_box rfl rfl rfl fun b => ?_
 repeat' first | refine wk ?_ | refine wc ?_ ?_ <;> intro h <;> try omega | fail
 refine c_mapAdd rfl rfl rfl xhol rfl rfl rfl rfl rfl (lruM_no hk) ?_
 refine l_same (itC ⟨k, b, false⟩ (.pointer none) (.pointer none) :: amap mp (.int .i64) (lruM (⟨k, b, false⟩ :: l)) :: ringL L cap mp l) rfl ?_
 refine l_ent (Ent.cons _ (ent_ring' L cap mp l (⟨k, b, false⟩ :: l))) ?_
 repeat' first | refine wk ?_ | refine wc ?_ ?_ <;> intro h <;> try omega | fail
 refine c_call (s_lastC L cap mp l ⟨k, b, false⟩ _ _) rfl xpkd rfl rfl ?_
 rintro v S rfl
 refine l_tell rfl ?_
 repeat' first | refine wk ?_ | refine wc ?_ ?_ <;> intro h <;> try omega | fail
 exact b_ret _ rfl (ent_lru (List.perm_append_singleton _ _).symm) ⟨b, rfl, rfl⟩
theorem s_lruNew (cap : Nat) (h1 : 1 ≤ cap) (h2 : cap ≤ 4096) :
  Spec Tryz.prog 339 [.int .i64 cap] [] (fun v S => ∃ L, v = .tuple #[.pointer (some ⟨L, 0, none⟩), .int .i64 0] ∧ S = [lruC L cap []]) := by
 refine spec_of Tryz.func339 rfl Tryz.results339 Tryz.ntmps339 rfl ?_
 repeat' first | refine wk ?_ | refine wc ?_ ?_ <;> intro h <;> try omega | fail
 refine c_makeMap rfl rfl rfl rfl rfl fun mp => ?_
 repeat' first | refine wk ?_ | refine wc ?_ ?_ <;> intro h <;> try omega | fail
 refine o_box rfl rfl rfl fun L => ?_
 repeat' first | refine wk ?_ | refine wc ?_ ?_ <;> intro h <;> try omega | fail
 refine t_draw (.eval 0 true (.eval 1 true (.eval 2 true (.eval 3 true (.eval 4 true (.eval 5 true (.eval 6 true (.eval 7 true (.eval 8 true (.eval 9 true (.eval 10 true (.eff 11 [] (.eval 12 true (.eval 13 true (.eval 14 true (.eff 15 [] .fin .stop)))) .stop)))))))))))) rfl (by kernel_rfl) ?_
 repeat' first | refine wk ?_ | refine wc ?_ ?_ <;> intro h <;> try omega | fail
 refine b_ret _ rfl (Ent.trans ?_ ((ent_ring' L cap mp [] []).trans (Ent.close lru_close xpkd))) ⟨L, rfl, rfl⟩
 exact (Ent.pick (Pre := [amap mp (.int .i64) (lruM []), rootC L cap mp (rootP L) (rootP L)]) xpkd)
theorem rootC_ne {L cap mp : Nat} {p n p' n' : Value} {x : It} {S : List Asn} : ∀ h, star (itC x p n :: rootC L cap mp p' n' :: S) h → x.b ≠ L := fun h hs => star_ne hs
theorem s_oldest (L cap : Nat) (x : It) (l : List It) :
  Spec Tryz.prog 269 [.pointer (some ⟨L, 0, none⟩)] [lruC L cap (x :: l)] (fun v S => v = .tuple #[.int .i64 x.k, .bool true] ∧ S = [lruC L cap (x :: l)]) := by
 refine spec_of Tryz.func269 rfl Tryz.results269 Tryz.ntmps269 rfl ?_
 refine t_open lru_open .here fun mp _ => ?_
 refine t_tell rfl ?_
 refine t_ent (ent_ring L cap mp _ _) ?_
 refine t_ent (S' := itC x (rootP L) (hdV (rootP L) l) :: rootC L cap mp (lsV (rootP L) (x :: l)) (ptrI x) :: amap mp (.int .i64) (lruM (x :: l)) :: seg (ptrI x) (rootP L) l) (Ent.perm ((List.Perm.cons _ (List.Perm.swap _ _ _)).trans ((List.Perm.swap _ _ _).trans (List.Perm.cons _ (List.Perm.swap _ _ _))))) ?_
 refine t_pure rootC_ne fun hne => ?_
 repeat' first | refine wk ?_ | refine wc ?_ ?_ <;> intro h <;> try omega | fail
 refine t_loop (fun m env S => m = 0 ∧ env = [(0, .pointer (some ⟨L, 0, none⟩)), (4, ptrI x)] ∧ S = itC x (rootP L) (hdV (rootP L) l) :: rootC L cap mp (lsV (rootP L) (x :: l)) (ptrI x) :: amap mp (.int .i64) (lruM (x :: l)) :: seg (ptrI x) (rootP L) l) 0 _ _ ⟨rfl, rfl, rfl⟩ xlss (Ent.refl _) ?_
 rintro m env S ⟨rfl, rfl, rfl⟩
 repeat' first | refine wk ?_ | refine wc ?_ ?_ <;> intro h <;> try omega | refine l_qs (by exact q_otherPtrN (a := ⟨x.b, 0, none⟩) (a' := ⟨L, 1, none⟩) rfl rfl rfl rfl rfl rfl (fun h => hne (Addr.mk.inj h).1) xfnd xfnd) rfl ?_ | fail
 refine b_ret _ rfl (Ent.trans (Ent.perm (((List.Perm.cons _ (List.Perm.swap _ _ _)).trans ((List.Perm.swap _ _ _).trans (List.Perm.cons _ (List.Perm.swap _ _ _)))).symm)) ((ent_ring' L cap mp (x :: l) (x :: l)).trans (Ent.close lru_close xpkd))) ⟨rfl, rfl⟩
end Go.Ox
end
